/- Instructions: Print. -/
import Derived.Test.YtngdhjebbhjokaaDoorB5
import Derived.Test.YtngdhjebbhjokaaDoorB7
section
namespace Go.Is
open Go Go.Ab
def opsL : List (List UInt8 × List Int) := [([], [0, 0, 0]), ([115, 101, 116], [1, 2, 0]), ([97, 100, 100], [1, 1, 1]), ([108, 111, 97, 100], [1, 1, 0]), ([115, 116, 111, 114, 101], [1, 1, 0]), ([115, 119, 97, 112], [1, 1, 0]), ([102, 101, 110, 99, 101], [0, 0, 0]),
  ([119, 111, 114, 108, 100], [3, 0, 0]), ([99, 97, 108, 108], [4, 1, 1]), ([106, 117, 109, 112], [5, 0, 0]), ([122, 101, 114, 111], [1, 5, 0]), ([104, 97, 108, 116], [0, 0, 0])]
def opsE : List Value := opsL.flatMap fun r => tx r.1 :: r.2.map I
structure Ins where
  op : Int
  a : Int
  b : Int
  c : Int
  deriving DecidableEq
def Ins.enc (x : Ins) : List Value := [I x.op, I x.a, I x.b, I x.c]
def wordO (o : Nat) : List UInt8 := (opsL.getD o ([], [])).1
def whatO (o : Nat) : List Int := (opsL.getD o ([], [])).2
def isO (x : Int) : Bool := decide (1 ≤ x ∧ x < 12)
def fitsV (what v many : Int) : Bool :=
  if what = 1 then decide (0 ≤ v ∧ v < 4) else if what = 2 then true else if what = 3 then decide (1 ≤ v ∧ v ≤ 3) else if what = 4 then decide (1 ≤ v ∧ v ≤ 4) else if what = 5 then decide (0 ≤ v ∧ v ≤ many) else decide (v = 0)
def Ins.vals (x : Ins) : List Int := [x.a, x.b, x.c]
def Ins.pairs (x : Ins) : List (Int × Int) := (whatO x.op.toNat).zip x.vals
def mayV (x : Ins) (many : Int) : Int := if isO x.op then (if (x.pairs.all fun p => fitsV p.1 p.2 many) then 0 else 10) else 15
def ckF (many : Int) : List Ins → Nat → Int × Int
  | [], _ => (0, 0)
  | x :: l, i => if mayV x many ≠ 0 then ((i : Int) + 1, mayV x many) else ckF many l (i + 1)
def checkV (p : List Ins) : Int × Int := if 32 < p.length then (0, 11) else ckF p.length p 0
/-- the numbers ahead of the first one that the op does not have -/
def used : List (Int × Int) → List Int
  | [] => []
  | p :: l => if p.1 = 0 then [] else p.2 :: used l
def numT (vs : List Int) : List UInt8 := vs.flatMap fun v => 32 :: Lib.itoa v
def lineV (x : Ins) : List UInt8 := wordO x.op.toNat ++ numT (used x.pairs)
def textV (p : List Ins) : List UInt8 := p.flatMap fun x => lineV x ++ [10]
def printV (p : List Ins) : List UInt8 × Int := if (checkV p).2 = 0 then (textV p, 0) else ([], (checkV p).2)
def inR (n : Int) : Prop := -9223372036854775808 ≤ n ∧ n ≤ 9223372036854775807
def Ins.inR (x : Ins) : Prop := Is.inR x.a ∧ Is.inR x.b ∧ Is.inR x.c
theorem o12 {k : Nat} (h : k < 12) : k = 0 ∨ k = 1 ∨ k = 2 ∨ k = 3 ∨ k = 4 ∨ k = 5 ∨ k = 6 ∨ k = 7 ∨ k = 8 ∨ k = 9 ∨ k = 10 ∨ k = 11 := by omega
theorem ops_word {k : Nat} (h : k < 12) : opsE[k * 4]? = some (tx (wordO k)) := by
  rcases o12 h with rfl | rfl | rfl | rfl | rfl | rfl | rfl | rfl | rfl | rfl | rfl | rfl <;> rfl
theorem ops_what {k i : Nat} (h : k < 12) (hi : i < 3) : opsE[k * 4 + (1 + i * 1)]? = some (I ((whatO k).getD i 0)) := by
  have h3 : i = 0 ∨ i = 1 ∨ i = 2 := by omega
  rcases o12 h with rfl | rfl | rfl | rfl | rfl | rfl | rfl | rfl | rfl | rfl | rfl | rfl <;> rcases h3 with rfl | rfl | rfl <;> rfl
theorem what_len {k : Nat} (h : k < 12) : (whatO k).length = 3 := by
  rcases o12 h with rfl | rfl | rfl | rfl | rfl | rfl | rfl | rfl | rfl | rfl | rfl | rfl <;> rfl
theorem word_len {k : Nat} (h : k < 12) : (wordO k).length ≤ 5 := by
  rcases o12 h with rfl | rfl | rfl | rfl | rfl | rfl | rfl | rfl | rfl | rfl | rfl | rfl <;> decide
theorem pairs_len {x : Ins} (h : isO x.op = true) : x.pairs.length = 3 := by
  have := of_decide_eq_true h
  unfold Ins.pairs
  rw [List.length_zip, what_len (by omega)]
  rfl
theorem pairs_at {x : Ins} (h : isO x.op = true) {i : Nat} (hi : i < 3) : x.pairs[i]? = some ((whatO x.op.toNat).getD i 0, x.vals.getD i 0) := by
  have := of_decide_eq_true h
  have h1 := what_len (k := x.op.toNat) (by omega)
  unfold Ins.pairs
  rw [List.getElem?_zip_eq_some]
  refine ⟨?_, ?_⟩
  · show (whatO x.op.toNat)[i]? = some ((whatO x.op.toNat).getD i 0)
    rw [List.getD_eq_getElem?_getD, List.getElem?_eq_getElem (by omega)]; rfl
  · show x.vals[i]? = some (x.vals.getD i 0)
    rw [List.getD_eq_getElem?_getD, List.getElem?_eq_getElem (by simp [Ins.vals]; omega)]; rfl
theorem used_all : ∀ (l : List (Int × Int)), (∀ p ∈ l, p.1 ≠ 0) → used l = l.map (·.2)
  | [], _ => rfl
  | p :: l, h => by
    rw [used, if_neg (h p List.mem_cons_self), used_all l fun q hq => h q (List.mem_cons_of_mem _ hq)]
    rfl
theorem used_pre {x : Int × Int} (hx : x.1 = 0) : ∀ (done rest : List (Int × Int)), (∀ p ∈ done, p.1 ≠ 0) → used (done ++ x :: rest) = done.map (·.2)
  | [], rest, _ => by rw [List.nil_append, used, if_pos hx]; rfl
  | p :: l, rest, h => by
    rw [List.cons_append, used, if_neg (h p List.mem_cons_self), used_pre hx l rest fun q hq => h q (List.mem_cons_of_mem _ hq)]
    rfl
theorem used_sub : ∀ (l : List (Int × Int)) (v : Int), v ∈ used l → ∃ p ∈ l, p.2 = v
  | [], v, h => by simp [used] at h
  | p :: l, v, h => by
    rw [used] at h
    split at h
    · simp at h
    · rcases List.mem_cons.1 h with rfl | h
      · exact ⟨p, List.mem_cons_self, rfl⟩
      · obtain ⟨q, hq, e⟩ := used_sub l v h
        exact ⟨q, List.mem_cons_of_mem _ hq, e⟩
theorem used_len : ∀ (l : List (Int × Int)), (used l).length ≤ l.length
  | [] => by simp [used]
  | p :: l => by
    rw [used]
    split
    · simp
    · have := used_len l; simp; omega
theorem pair_inR {x : Ins} (h : x.inR) {p : Int × Int} (hp : p ∈ x.pairs) : inR p.2 := by
  have : p.2 ∈ x.vals := (List.of_mem_zip hp).2
  simp only [Ins.vals, List.mem_cons, List.not_mem_nil, or_false] at this
  obtain ⟨h1, h2, h3⟩ := h
  rcases this with e | e | e <;> rw [e] <;> assumption
theorem numT_len : ∀ (l : List Int), (∀ v ∈ l, inR v) → (numT l).length ≤ l.length * 21
  | [], _ => by simp [numT]
  | v :: l, h => by
    have h1 := numT_len l fun w hw => h w (List.mem_cons_of_mem _ hw)
    have h2 := itoa_len (h v List.mem_cons_self)
    have : numT (v :: l) = 32 :: Lib.itoa v ++ numT l := rfl
    rw [this]
    simp
    omega
theorem line_len {x : Ins} (ho : isO x.op = true) (h : x.inR) : (lineV x).length ≤ 68 := by
  have h1 := of_decide_eq_true ho
  have h2 := word_len (k := x.op.toNat) (by omega)
  have h3 := used_len x.pairs
  rw [pairs_len ho] at h3
  have h4 := numT_len (used x.pairs) fun v hv => by
    obtain ⟨p, hp, rfl⟩ := used_sub _ _ hv
    exact pair_inR h hp
  unfold lineV
  rw [List.length_append]
  omega
theorem ckF_ok {many : Int} : ∀ (l : List Ins) (i : Nat), (ckF many l i).2 = 0 → ∀ x ∈ l, mayV x many = 0
  | [], _, _, x, hx => by simp at hx
  | y :: l, i, h, x, hx => by
    rw [ckF] at h
    split at h
    · rename_i hn; exact absurd h hn
    · rename_i hn
      rcases List.mem_cons.1 hx with rfl | hx
      · omega
      · exact ckF_ok l (i + 1) h x hx
theorem may_is {x : Ins} {many : Int} (h : mayV x many = 0) : isO x.op = true := by
  unfold mayV at h
  split at h
  · assumption
  · cases h
theorem check_ok {p : List Ins} (h : (checkV p).2 = 0) : p.length ≤ 32 ∧ ∀ x ∈ p, mayV x p.length = 0 := by
  unfold checkV at h
  split at h
  · cases h
  · exact ⟨by omega, ckF_ok p 0 h⟩
end Go.Is
end
section
namespace Go.Proofs.YtngdhjebbhjokaaDoor
open Go Go.Ab Go.Is
set_option maxRecDepth 100000
def glI (e0 : TypeId) (z0 : Nat × Nat) : Nat → Option Blk := fun i => if i = 0 then some (.cells opsE e0 z0 true) else none
theorem awake_run (e0 : TypeId) (z0 : Nat × Nat) : ((run Pr K0 5000 (.call 7 []) (Go.Ab.start 9 (oldOf 9 (glI e0 z0) []))).any fun r => veq r.1.v (.bool true)) = true := by kernel_rfl
end Go.Proofs.YtngdhjebbhjokaaDoor
end
section
namespace Go.Proofs.YtngdhjebbhjokaaDoor
open Go Go.Ab Go.Is
theorem r_idxG {g n sz i : Nat} {x : Int} {k : Value → Prop} (hx : x = (i : Int)) (hi : i < n) (hk : k (pt g (i * sz) 0)) : thn (idxA n sz (.pointer (some ⟨g, 0, none⟩)) (I x)) k := by
  subst hx
  exact r_idxA (b := g) (o := 0) (j := 0) (by omega) (by omega) (by simpa [pt] using hk)
theorem itoa_known {n : Int} (h : inR n) : K 16 [I n] = some (.val (tx (Lib.itoa n))) := by
  show addK K0 7 (.bool true) 16 [I n] = _
  unfold addK
  rw [if_neg (by simp)]
  show (if _ then _ else _) = _
  unfold inR at h
  rw [if_pos h]
theorem at_lt {α : Type} {l : List α} {i : Nat} (h : i < l.length) : ∃ x, l[i]? = some x ∧ l.drop i = x :: l.drop (i + 1) := ⟨l[i], by simp, List.drop_eq_getElem_cons h⟩
attribute [local irreducible] thn Br ld1 ldN stV alc alcAt alcS alcSAt resv padd nilV extV part1 partN lenS lenT biI biT biB biP biS biF biE biA unV idxS idxA pickV appV copyV clearV slS slA slT mkS blkOf at1 atN atS convI convS minV maxV Cl OkF OkR EndX endV beginV defersOf setLoop closeMarks
variable {G : Bg} {h : AH} {L L' M : List HP} {Q : Value → AH → Prop}
theorem awake_ok (hk : Q (.bool true) h) : Cl Pr K 7 [] h Q := by
  unfold Cl
  exact ok_known (v := .bool true) rfl hk
theorem itoa_ok {n : Int} (hn : inR n) (hk : Q (tx (Lib.itoa n)) h) : Cl Pr K 16 [I n] h Q := by
  unfold Cl
  exact ok_known (itoa_known hn) hk
theorem is_ok {x : Int} (hk : Q (.bool (isO x)) h) : Cl Pr K 22 [I x] h Q := by
  refine c22 (b22_0 (r_geI (r_br (fun h1 => r_ltI ?_) (fun h1 => ?_))))
  · rw [show decide (x < 12) = isO x from decide_eq_decide.2 (by omega)]; exact hk
  · rw [show false = isO x from (decide_eq_false (by omega)).symm]; exact hk
theorem fits_ok {what v many : Int} (hk : Q (.bool (fitsV what v many)) h) : Cl Pr K 23 [I what, I v, I many] h Q := by
  unfold fitsV at hk
  refine c23 (b23_0 (r_eqI (r_br (fun c => ?_) (fun n1 => b23_1 (r_eqI (r_br (fun c => ?_) (fun n2 => b23_2 (r_eqI (r_br (fun c => ?_) (fun n3 => b23_3 (r_eqI (r_br (fun c => ?_) (fun n4 => b23_4 (r_eqI (r_br (fun c => ?_) (fun n5 => r_eqI ?_))))))))))))))))
  · rw [if_pos c] at hk
    refine r_geI (r_br (fun h1 => r_ltI ?_) (fun h1 => ?_))
    · rw [show decide (v < 4) = decide (0 ≤ v ∧ v < 4) from decide_eq_decide.2 (by omega)]; exact hk
    · rw [decide_eq_false (by omega)] at hk; exact hk
  · rw [if_neg n1, if_pos c] at hk; exact hk
  · rw [if_neg n1, if_neg n2, if_pos c] at hk
    refine r_geI (r_br (fun h1 => r_leI ?_) (fun h1 => ?_))
    · rw [show decide (v ≤ 3) = decide (1 ≤ v ∧ v ≤ 3) from decide_eq_decide.2 (by omega)]; exact hk
    · rw [decide_eq_false (by omega)] at hk; exact hk
  · rw [if_neg n1, if_neg n2, if_neg n3, if_pos c] at hk
    refine r_geI (r_br (fun h1 => r_leI ?_) (fun h1 => ?_))
    · rw [show decide (v ≤ 4) = decide (1 ≤ v ∧ v ≤ 4) from decide_eq_decide.2 (by omega)]; exact hk
    · rw [decide_eq_false (by omega)] at hk; exact hk
  · rw [if_neg n1, if_neg n2, if_neg n3, if_neg n4, if_pos c] at hk
    refine r_geI (r_br (fun h1 => r_leI ?_) (fun h1 => ?_))
    · rw [show decide (v ≤ many) = decide (0 ≤ v ∧ v ≤ many) from decide_eq_decide.2 (by omega)]; exact hk
    · rw [decide_eq_false (by omega)] at hk; exact hk
  · rw [if_neg n1, if_neg n2, if_neg n3, if_neg n4, if_neg n5] at hk; exact hk
def prE (p : Int × Int) : List Value := [I p.1, I p.2]
theorem numbers_ok {x : Ins} (hs : Hs G h L) (hk : ∀ p h', Hs G h' (seg p 0 x.enc :: L) → Q (.func (.func 24) #[] #[pt p 0 0]) h') : Cl Pr K 15 [.agg ⟨x.enc⟩] h Q := by
  exact c15 (b15_0 (r_bx hs fun p h hs => hk _ _ hs))
theorem numbers_y {x : Ins} {p : Nat} (ho : isO x.op = true) (hg : Ob G 0 opsE) : Yds Pr K G 24 [] [pt p 0 0] (seg p 0 x.enc) (x.pairs.map prE) := by
  intro I' J y L h Q hs hy h1 h2
  have hop := of_decide_eq_true ho
  refine c24 (b24_0 ?_)
  refine r_padd (r_ld hs rfl (r_padd (r_ld hs rfl (r_padd (r_ld hs rfl (r_fill (c := x.vals.map I) rfl ?_))))))
  have loop : ∀ (f i : Nat) (h : AH), i + f = 3 → Hs G h (seg p 0 x.enc :: I' ((x.pairs.drop i).map prE) :: L) → A24_1 Q y (pt p 0 0) (.agg ⟨x.vals.map I⟩) (I i) h := by
    intro f
    induction f with
    | zero =>
      intro i h hi hs
      rw [List.drop_of_length_le (by rw [pairs_len ho]; omega)] at hs
      exact b24_1 (r_ltI (r_brF (by omega) (h1 _ _ hs)))
    | succ f ih =>
      intro i h hi hs
      obtain ⟨q, hq, hd⟩ := at_lt (l := x.pairs) (i := i) (by rw [pairs_len ho]; omega)
      rw [pairs_at ho (by omega)] at hq
      simp only [Option.some.injEq] at hq
      rw [hd] at hs
      have e0 : i = 0 ∨ i = 1 ∨ i = 2 := by omega
      have ev : (x.vals.map I)[i]? = some (I q.2) := by
        rw [← hq]
        rcases e0 with rfl | rfl | rfl <;> rfl
      refine b24_1 (r_ltI (r_brT (by omega) (b24_2 (r_at1 (by omega) ev (r_padd (r_ld hs rfl (r_idxG (i := x.op.toNat) (by omega) (by omega) (r_padd (r_idxAn (by omega) ?_)))))))))
      refine r_ldo hs hg (ops_what (by omega) (by omega)) ?_
      have hv : (whatO x.op.toNat).getD i 0 = q.1 := by rw [← hq]
      rw [hv]
      refine (hy _ _ h _ hs.at2).mono fun v h' hv => ?_
      rcases hv with ⟨rfl, hs'⟩ | ⟨rfl, hs'⟩
      · exact r_not (r_brf (b24_3 (r_addI (by omega) (ih (i + 1) h' (by omega) hs'.at2))))
      · exact r_not (r_brt (h2 _ _ hs'.at2))
  exact loop 3 0 h rfl hs
end Go.Proofs.YtngdhjebbhjokaaDoor
end
section
namespace Go.Proofs.YtngdhjebbhjokaaDoor
open Go Go.Ab Go.Is
attribute [local irreducible] thn Br ld1 ldN stV alc alcAt alcS alcSAt resv padd nilV extV part1 partN lenS lenT biI biT biB biP biS biF biE biA unV idxS idxA pickV appV copyV clearV slS slA slT mkS blkOf at1 atN atS convI convS minV maxV Cl OkF OkR EndX endV beginV defersOf setLoop closeMarks
variable {G : Bg} {h : AH} {L L' M : List HP} {Q : Value → AH → Prop}
abbrev myX (p1 p5 : Nat) (many v : Int) (e : Nat → Value) (d l : Nat) (z : LoopState × Option Code) (c : Prop) : HP := sp [puH c, lpT Pr 12 (dcd 442) 22 e d l z, seg p5 0 [I many], seg p1 0 [I v]]
theorem may_ok {x : Ins} {many : Int} (hg : Ob G 0 opsE) (hs : Hs G h L) (hk : ∀ h', Hs G h' L → Q (I (mayV x many)) h') : Cl Pr K 12 [.agg ⟨x.enc⟩, I many] h Q := by
  refine c12 (b12_0 (r_bx hs fun p2 h hs => r_bx hs fun p5 h hs => r_padd (r_ld hs rfl (is_ok (r_not (r_brn (r_brb (fun ho => ?_) (fun ho => ?_))))))))
  rotate_left
  · have := hk h hs.tail.tail
    unfold mayV at this
    rw [if_neg (by rw [ho]; decide)] at this
    exact r_cm0 this
  unfold mayV at hk
  rw [if_pos ho] at hk
  refine b12_1 (r_new hs fun p1 h hs => r_stW hs rfl rfl rfl rfl fun h hs => r_ldN hs (by decide) (l := x.enc) rfl rfl (numbers_ok hs fun p h hs => r_marks hs fun d h hs => ?_))
  intro e he
  refine r_loop hs fun l h hs => r_okR rfl ?_
  have hs : Hs G h (seg p 0 x.enc :: myX p1 p5 many 0 e d l (.ready, none) ((([] : List (Int × Int)).all fun p => fitsV p.1 p.2 many) = true) :: mk d () :: L) := by
    refine Hs.at2 (sp_pu rfl (Hs.pk3 ?_))
    have hs := hs.front3 (lpT Pr 12 (dcd 442) 22 e d l (.ready, none)) (seg p5 0 [I many]) (seg p1 0 [I 0])
    exact hs.to
  refine (numbers_y (p := p) ho hg).fold (X := fun done => myX p1 p5 many 0 e d l (.ready, none) ((done.all fun p => fitsV p.1 p.2 many) = true)) (Z := fun _ y => myX p1 p5 many 10 e d l (.done, some (.exit 0)) (fitsV y.1 y.2 many = false)) hs ?_ ?_ ?_
  · intro done y h M hp hs
    obtain ⟨hd, hs1⟩ := sp_puE hs
    clear hs
    have hs := hs1.un3
    refine r12_0 (r_atv hs) he (b12_2 (r_beginv hs fun h hs => r_ld (b := p5) (o := 0) hs rfl (fits_ok (r_not (r_brn (r_brb (fun h1 => ?_) (fun h1 => ?_)))))))
    · refine r_setv hs fun h hs => .inl ⟨rfl, sp_pu ?_ (Hs.pk3 hs.to)⟩
      rw [List.all_append, hd]
      simp [h1]
    · refine r_stW (b := p1) (o := 0) hs rfl rfl rfl rfl fun h hs => r_setv hs fun h hs => .inr ⟨rfl, sp_pu h1 (Hs.pk3 ?_)⟩
      exact hs.to
  · intro v h hs
    have hs := hs.front (myX p1 p5 many 0 e d l (.ready, none) ((x.pairs.all fun p => fitsV p.1 p.2 many) = true))
    obtain ⟨hd, hs1⟩ := sp_puE hs
    clear hs
    have hs := hs1.un3
    rw [if_pos hd] at hk
    exact r_endv hs fun h hs => r_endN (r_ld (b := p1) (o := 0) hs rfl (r_cm1 hs fun h hs => r_cm0 (hk _ hs.to)))
  · intro done y v h hp hs
    have hs := hs.front (myX p1 p5 many 10 e d l (.done, some (.exit 0)) (fitsV y.1 y.2 many = false))
    obtain ⟨hd, hs1⟩ := sp_puE hs
    clear hs
    have hs := hs1.un3
    rw [if_neg ?_] at hk
    · exact r_endd hs fun h hs => r_endE rfl (r_ld (b := p1) (o := 0) hs rfl (r_cm1 hs fun h hs => r_cm0 (hk _ hs.to)))
    · obtain ⟨ys, hys⟩ := hp
      rw [← hys]
      simp [hd]
theorem check_loop {t : Value} {p : List Ins} {v0 v1 : Value} {e : TypeId} (h1 : v1 = I p.length) (hl : p.length ≤ 32) (hg : Ob G 0 opsE) (hk : ∀ h', Hs G h' (rdS G 4 e t (p.map Ins.enc) :: L) → Q (.tuple ⟨[I (checkV p).1, I (checkV p).2]⟩) h') :
    ∀ (f i : Nat) (h : AH), i + f = p.length → checkV p = ckF p.length (p.drop i) i → Hs G h (rdS G 4 e t (p.map Ins.enc) :: L) → A14_2 Q t t v1 (I i) h := by
  subst h1
  intro f
  induction f with
  | zero =>
    intro i h hi he hs
    rw [List.drop_of_length_le (by omega)] at he
    rw [he] at hk
    exact b14_2 (r_ltI (r_brF (by omega) (hk _ hs)))
  | succ f ih =>
    intro i h hi he hs
    obtain ⟨x, hx, hd⟩ := at_lt (l := p) (i := i) (by omega)
    rw [hd, ckF] at he
    obtain ⟨ta, tc, ht⟩ := rd_slice hs
    refine b14_2 (r_ltI (r_brT (by omega) (b14_3 (r_rd hs (by decide) (i := i) (x := x.enc) (by simp [hx]) (r_new hs fun p3 h hs => ?_)))))
    refine r_stW hs rfl rfl rfl rfl fun h hs => r_ldN hs (by decide) (l := x.enc) rfl rfl ?_
    rw [ht]
    refine r_lenS ?_
    rw [← ht, List.length_map]
    refine may_ok hg hs fun h hs => r_neI (r_br (fun c => ?_) (fun c => ?_))
    · rw [if_pos c] at he
      rw [he] at hk
      exact r_addI (by omega) (hk _ hs.tail)
    · rw [if_neg c] at he
      exact b14_4 (r_addI (by omega) (ih (i + 1) h (by omega) he hs.tail))
theorem check_ok {t : Value} {p : List Ins} {e : TypeId} (hg : Ob G 0 opsE) (hs : Hs G h (rdS G 4 e t (p.map Ins.enc) :: L)) (hk : ∀ h', Hs G h' (rdS G 4 e t (p.map Ins.enc) :: L) → Q (.tuple ⟨[I (checkV p).1, I (checkV p).2]⟩) h') :
    Cl Pr K 14 [t] h Q := by
  obtain ⟨ta, tc, ht⟩ := rd_slice hs
  have len : ∀ {k : Value → Prop}, k (I p.length) → thn (lenS t) k := fun hk => by
    rw [ht]; refine r_lenS ?_; rw [List.length_map]; exact hk
  refine c14 (b14_0 (len (r_gtI (r_br (fun c => ?_) (fun c => ?_)))))
  · have := hk h hs
    unfold checkV at this
    rw [if_pos (by omega)] at this
    exact this
  · refine b14_1 (len (check_loop (v0 := t) rfl (by omega) hg hk p.length 0 h (by omega) ?_ hs))
    unfold checkV
    rw [if_neg (by omega)]
    rfl
end Go.Proofs.YtngdhjebbhjokaaDoor
end
section
namespace Go.Proofs.YtngdhjebbhjokaaDoor
open Go Go.Ab Go.Is
attribute [local irreducible] thn Br ld1 ldN stV alc alcAt alcS alcSAt resv padd nilV extV part1 partN lenS lenT biI biT biB biP biS biF biE biA unV idxS idxA pickV appV copyV clearV slS slA slT mkS blkOf at1 atN atS convI convS minV maxV Cl OkF OkR EndX endV beginV defersOf setLoop closeMarks
variable {G : Bg} {h : AH} {L L' M : List HP} {Q : Value → AH → Prop}
abbrev pnX (p1 : Nat) (s : List UInt8) (e : Nat → Value) (d l : Nat) (z : LoopState × Option Code) (c : Prop) : HP := sp [puH c, lpT Pr 8 (dcd 501338) 47 e d l z, seg p1 0 [tx s]]
theorem numT_app (a b : List Int) : numT (a ++ b) = numT a ++ numT b := by simp [numT]
theorem text_take {p : List Ins} {i : Nat} {x : Ins} (hx : p[i]? = some x) : textV (p.take (i + 1)) = textV (p.take i) ++ (lineV x ++ [10]) := by
  rw [List.take_add_one, hx]
  simp [textV]
theorem text_len {p : List Ins} (hp : ∀ x ∈ p, isO x.op = true ∧ x.inR) : (textV p).length ≤ p.length * 69 := by
  induction p with
  | nil => simp [textV]
  | cons x p ih =>
    have h1 := ih fun y hy => hp y (List.mem_cons_of_mem _ hy)
    have h2 := line_len (hp x List.mem_cons_self).1 (hp x List.mem_cons_self).2
    have : textV (x :: p) = (lineV x ++ [10]) ++ textV p := rfl
    rw [this]
    simp
    omega
theorem print_loop {t : Value} {p : List Ins} {v1 : Value} {e : TypeId} {p1 : Nat} (h1 : v1 = I p.length) (hl : p.length ≤ 32) (hp : ∀ x ∈ p, isO x.op = true ∧ x.inR) (hg : Ob G 0 opsE)
    (hk : ∀ h', Hs G h' (rdS G 4 e t (p.map Ins.enc) :: L) → Q (.tuple ⟨[tx (textV p), I 0]⟩) h') :
    ∀ (f i : Nat) (ds : List Nat) (h : AH), i + f = p.length → Hs G h (seg p1 0 [tx (textV (p.take i))] :: mks ds :: rdS G 4 e t (p.map Ins.enc) :: L) → A8_2 ds Q (tx []) (I 0) (pt p1 0 0) t v1 (I i) undef undef h := by
  subst h1
  intro f
  induction f with
  | zero =>
    intro i ds h hi hs
    rw [List.take_of_length_le (by omega)] at hs
    exact b8_2 (r_ltI (r_brF (by omega) (r_ld hs rfl (r_cms (L := rdS G 4 e t (p.map Ins.enc) :: L) ds hs.tail hk))))
  | succ f ih =>
    intro i ds h hi hs
    obtain ⟨x, hx, hd⟩ := at_lt (l := p) (i := i) (by omega)
    obtain ⟨ho, hr⟩ := hp x (List.mem_of_getElem? hx)
    have hop := of_decide_eq_true ho
    have hlen : (textV (p.take i)).length ≤ 32 * 69 := by
      have := text_len (p := p.take i) fun y hy => hp y (List.mem_of_mem_take hy)
      have h2 : (p.take i).length ≤ 32 := by rw [List.length_take]; omega
      omega
    have hw := word_len (k := x.op.toNat) (by omega)
    refine b8_2 (r_ltI (r_brT (by omega) (b8_3 (r_rd (hs.front (rdS G 4 e t (p.map Ins.enc))) (by decide) (i := i) (x := x.enc) (by simp [hx]) (r_new hs fun p3 h hs => ?_)))))
    refine r_stW hs rfl rfl rfl rfl fun h hs => r_resv hs fun r h hs => r_ld (b := p1) (o := 0) hs rfl (r_padd (r_ld hs rfl (r_idxG (i := x.op.toNat) (by omega) (by omega) (r_padd (r_ldo hs hg (ops_word (by omega)) ?_)))))
    refine r_catX (by omega) (r_stW (b := p1) (o := 0) hs rfl rfl rfl rfl fun h hs => r_ldN (b := p3) (o := 0) hs (by decide) (l := x.enc) rfl rfl (numbers_ok hs fun q h hs => r_marks hs fun d h hs => ?_))
    intro e' he
    refine r_loop hs fun l h hs => r_okR rfl ?_
    have hs : Hs G h (seg q 0 x.enc :: pnX p1 (textV (p.take i) ++ wordO x.op.toNat ++ numT ([] : List Int)) e' d l (.ready, none) (∀ y ∈ ([] : List (Int × Int)), y.1 ≠ 0) :: mks (d :: ds) :: rdS G 4 e t (p.map Ins.enc) :: L) := by
      refine Hs.at2 (sp_pu (fun y hy => by cases hy) (Hs.pk2 ?_))
      have hs := mks_cons (hs.front2 (mk d ()) (mks ds))
      have hs := hs.front2 (lpT Pr 8 (dcd 501338) 47 e' d l (.ready, none)) (seg p1 0 [tx (textV (p.take i) ++ wordO x.op.toNat)])
      have e0 : textV (p.take i) ++ wordO x.op.toNat ++ numT ([] : List Int) = textV (p.take i) ++ wordO x.op.toNat := by simp [numT]
      rw [e0]
      exact hs.to
    have next : ∀ (s : List UInt8) (h : AH), s = lineV x → Hs G h (seg p1 0 [tx (textV (p.take i) ++ s)] :: mks (d :: ds) :: rdS G 4 e t (p.map Ins.enc) :: L) →
        thn (ld1 h (pt p1 0 0)) fun v28 => thn (biT .add v28 (.string ⟨#[10]⟩)) fun v29 => thn (stV h 1 (pt p1 0 0) v29) fun h30 => thn (biI .add (I i) (I 1)) fun v31 => A8_2 (d :: ds) Q (tx []) (I 0) (pt p1 0 0) t (I p.length) v31 undef undef h30 := fun s h hse hs => by
      subst hse
      have hl2 := line_len ho hr
      refine r_ld hs rfl (r_catX (b := [10]) (by rw [List.length_append]; simp; omega) (r_stW hs rfl rfl rfl rfl fun h hs => r_addI (by omega) (ih (i + 1) (d :: ds) h (by omega) ?_)))
      rw [text_take hx]
      rw [List.append_assoc] at hs
      exact hs
    refine (numbers_y (p := q) ho hg).fold (X := fun done => pnX p1 (textV (p.take i) ++ wordO x.op.toNat ++ numT (done.map (·.2))) e' d l (.ready, none) (∀ y ∈ done, y.1 ≠ 0))
      (Z := fun done y => pnX p1 (textV (p.take i) ++ wordO x.op.toNat ++ numT (done.map (·.2))) e' d l (.done, some (.exit 2)) ((∀ y ∈ done, y.1 ≠ 0) ∧ y.1 = 0)) hs ?_ ?_ ?_
    · intro done y h M hpre hs
      obtain ⟨hd, hs1⟩ := sp_puE hs
      clear hs
      have hs := hs1.un2
      have hym : y ∈ x.pairs := by obtain ⟨ys, hys⟩ := hpre; rw [← hys]; simp
      have hyr := pair_inR hr hym
      refine r8_0 (r_atv hs) he (b8_4 (r_beginv hs fun h hs => r_eqI (r_br (fun c => ?_) (fun c => ?_))))
      · refine r_setv hs fun h hs => .inr ⟨rfl, sp_pu ⟨hd, c⟩ (Hs.pk2 ?_)⟩
        exact hs.to
      · refine r_resv hs fun r h hs => r_ld (b := p1) (o := 0) hs rfl (itoa_ok hyr ?_)
        have h20 := itoa_len hyr
        have hdl : (numT (done.map (·.2))).length ≤ 3 * 21 := by
          have h1 := numT_len (done.map (·.2)) fun v hv => by
            obtain ⟨z, hz, rfl⟩ := List.mem_map.1 hv
            obtain ⟨ys, hys⟩ := hpre
            exact pair_inR hr (by rw [← hys]; simp [hz])
          have h2 := hpre.length_le
          rw [pairs_len ho] at h2
          simp at h2 h1
          omega
        refine r_catX (a := [32]) (by simp; omega) (r_catX (by simp; omega) ?_)
        have hs0 := hs
        refine r_stW (b := p1) (o := 0) hs rfl rfl rfl rfl fun h hs => r_fl (r_ld (b := p1) (o := 0) hs0 rfl veq_X) (r_setv hs fun h hs => .inl ⟨rfl, sp_pu ?_ (Hs.pk2 ?_)⟩)
        · intro z hz
          rcases List.mem_append.1 hz with hz | hz
          · exact hd z hz
          · rw [List.mem_singleton.1 hz]; exact c
        · have e1 : textV (p.take i) ++ wordO x.op.toNat ++ numT ((done ++ [y]).map (·.2)) = textV (p.take i) ++ wordO x.op.toNat ++ numT (done.map (·.2)) ++ ([32] ++ Lib.itoa y.2) := by
            rw [List.map_append, numT_app]
            simp [numT]
          rw [e1]
          exact hs.to
    · intro v h hs
      have hs := hs.front (pnX p1 (textV (p.take i) ++ wordO x.op.toNat ++ numT (x.pairs.map (·.2))) e' d l (.ready, none) (∀ y ∈ x.pairs, y.1 ≠ 0))
      obtain ⟨hd, hs1⟩ := sp_puE hs
      clear hs
      have hs := hs1.un2
      rw [List.append_assoc] at hs
      refine r_endv hs fun h hs => r_endN (next (wordO x.op.toNat ++ numT (x.pairs.map (·.2))) h ?_ hs.to)
      rw [lineV, used_all _ hd]
    · intro done y v h hpre hs
      have hs := hs.front (pnX p1 (textV (p.take i) ++ wordO x.op.toNat ++ numT (done.map (·.2))) e' d l (.done, some (.exit 2)) ((∀ y ∈ done, y.1 ≠ 0) ∧ y.1 = 0))
      obtain ⟨⟨hd, h0⟩, hs1⟩ := sp_puE hs
      clear hs
      have hs := hs1.un2
      rw [List.append_assoc] at hs
      refine r_endd hs fun h hs => r_endE rfl (next (wordO x.op.toNat ++ numT (done.map (·.2))) h ?_ hs.to)
      obtain ⟨ys, hys⟩ := hpre
      rw [lineV, ← hys, List.append_assoc, List.singleton_append, used_pre h0 _ _ hd]
theorem print_ok {t : Value} {p : List Ins} {e : TypeId} (hr : ∀ x ∈ p, x.inR) (hg : Ob G 0 opsE) (hs : Hs G h (rdS G 4 e t (p.map Ins.enc) :: L)) (hk : ∀ h', Hs G h' (rdS G 4 e t (p.map Ins.enc) :: L) → Q (.tuple ⟨[tx (printV p).1, I (printV p).2]⟩) h') :
    Cl Pr K 8 [t] h Q := by
  refine c8 (b8_0 (check_ok hg hs fun h hs => r_ext rfl (r_ext rfl (r_neI (r_br (fun c => ?_) (fun c => ?_))))))
  · have := hk h hs
    unfold printV at this
    rw [if_neg c] at this
    exact r_cm0 this
  · have hz : (checkV p).2 = 0 := by omega
    unfold printV at hk
    rw [if_pos hz] at hk
    obtain ⟨hl, hm⟩ := Is.check_ok hz
    obtain ⟨ta, tc, ht⟩ := rd_slice hs
    refine b8_1 (r_new hs fun p1 h hs => r_stW hs rfl rfl rfl rfl fun h hs => ?_)
    have len : ∀ {k : Value → Prop}, k (I p.length) → thn (lenS t) k := fun hk => by
      rw [ht]; refine r_lenS ?_; rw [List.length_map]; exact hk
    refine len (print_loop (L := L) (p := p) (e := e) rfl hl (fun x hx => ⟨may_is (hm x hx), hr x hx⟩) hg hk p.length 0 [] h (by omega) ?_)
    have hs : Hs G h (mks [] :: seg p1 0 [tx (textV (p.take 0))] :: rdS G 4 e t (p.map Ins.enc) :: L) := mks_nil hs
    exact hs.to
end Go.Proofs.YtngdhjebbhjokaaDoor
end
