/- Words of a memory; a granule is scrubbed; a copy. -/
import Derived.Test.YtincdgimnjofpaaDoorB5
import Derived.Test.YtincdgimnjofpaaDoorB6
section
namespace Go.Hm
open Go Go.Ab
structure Cfg where
  cores : Int
  granules : Int
  sets : Int
  ways : Int
  depth : Int
  entries : Int
  banks : Int
  deriving DecidableEq
def Cfg.list (C : Cfg) : List Int := [C.cores, C.granules, C.sets, C.ways, C.depth, C.entries, C.banks]
def Cfg.enc (C : Cfg) : List Value := [I C.cores, I C.granules, I C.sets, I C.ways, I C.depth, I C.entries, I C.banks]
def limL : List Int := [4, 16, 8, 4, 16, 8, 4]
def limE : List Value := [I 4, I 16, I 8, I 4, I 16, I 8, I 4]
def Cfg.ckF (C : Cfg) : Nat → Nat → Int
  | 0, _ => 0
  | f + 1, i => if C.list.getD i 0 < 1 ∨ limL.getD i 0 < C.list.getD i 0 then 10 else C.ckF f (i + 1)
def Cfg.Ok (C : Cfg) : Prop := (1 ≤ C.cores ∧ C.cores ≤ 4) ∧ (1 ≤ C.granules ∧ C.granules ≤ 16) ∧ (1 ≤ C.sets ∧ C.sets ≤ 8) ∧ (1 ≤ C.ways ∧ C.ways ≤ 4) ∧ (1 ≤ C.depth ∧ C.depth ≤ 16) ∧ (1 ≤ C.entries ∧ C.entries ≤ 8) ∧ (1 ≤ C.banks ∧ C.banks ≤ 4)
instance (C : Cfg) : Decidable C.Ok := by unfold Cfg.Ok; infer_instance
theorem Cfg.ck_eq (C : Cfg) : C.ckF 7 0 = if C.Ok then 0 else 10 := by
  simp only [Cfg.ckF, Cfg.list, limL, List.getD_cons_zero, List.getD_cons_succ]
  by_cases h : C.Ok
  · rw [if_pos h]
    unfold Cfg.Ok at h
    repeat rw [if_neg (by omega)]
  · rw [if_neg h]
    unfold Cfg.Ok at h
    repeat' split
    all_goals first | rfl | (exfalso; omega)
def Cfg.lines (C : Cfg) : Nat := (C.granules * 2).toNat
theorem Cfg.lines_eq {C : Cfg} (h : C.Ok) : (C.lines : Int) = C.granules * 2 ∧ 2 ≤ C.lines ∧ C.lines ≤ 32 := by
  unfold Cfg.Ok at h; unfold Cfg.lines; omega
end Go.Hm
end
section
namespace Go.Hm
open Go Go.Ab
abbrev Ln := Int × Int
def lnE (l : Ln) : List Value := [I l.1, I l.2]
/-- how many of the first 'n' lines are in a bank -/
def cntB (n B i : Nat) : Nat := (n + B - 1 - i) / B
theorem cntB_zero {B i : Nat} (hi : i < B) : cntB 0 B i = 0 := Nat.div_eq_of_lt (by omega)
theorem cntB_succ {n B i : Nat} (hi : i < B) : cntB (n + 1) B i = if i = n % B then cntB n B i + 1 else cntB n B i := by
  have hd := Nat.div_add_mod n B
  have hm := Nat.mod_lt n (show 0 < B by omega)
  unfold cntB
  generalize n / B = q at hd
  generalize n % B = r at hd hm ⊢
  subst hd
  split
  · rename_i h; subst h
    rw [show B * q + i + 1 + B - 1 - i = B * q + B by omega, show B * q + i + B - 1 - i = B * q + (B - 1) by omega]
    rw [Nat.mul_add_div (by omega), Nat.mul_add_div (by omega), Nat.div_self (by omega), Nat.div_eq_of_lt (show B - 1 < B by omega)]
  · rename_i h
    rcases Nat.lt_or_ge i r with h1 | h1
    · rw [show B * q + r + 1 + B - 1 - i = B * q + (B + (r - i)) by omega, show B * q + r + B - 1 - i = B * q + (B + (r - i - 1)) by omega]
      rw [Nat.mul_add_div (by omega), Nat.mul_add_div (by omega), Nat.add_div_left _ (by omega), Nat.add_div_left _ (by omega), Nat.div_eq_of_lt (show r - i < B by omega), Nat.div_eq_of_lt (show r - i - 1 < B by omega)]
    · rw [show B * q + r + 1 + B - 1 - i = B * q + (B + r - i) by omega, show B * q + r + B - 1 - i = B * q + (B + r - i - 1) by omega]
      rw [Nat.mul_add_div (by omega), Nat.mul_add_div (by omega), Nat.div_eq_of_lt (show B + r - i < B by omega), Nat.div_eq_of_lt (show B + r - i - 1 < B by omega)]
theorem cntB_at {n B l : Nat} (hB : 0 < B) (hl : l < n) : l / B < cntB n B (l % B) := by
  unfold cntB
  have hd := Nat.div_add_mod l B
  have hm := Nat.mod_lt l hB
  rw [Nat.lt_div_iff_mul_lt hB]
  rw [Nat.mul_comm]
  generalize B * (l / B) = q at hd ⊢
  omega
theorem bank_no {B l k i : Nat} (hi : i < B) : k * B + i = l ↔ k = l / B ∧ i = l % B := by
  constructor
  · intro h; subst h
    rw [Nat.mul_comm, Nat.mul_add_div (by omega), Nat.mul_add_mod, Nat.div_eq_of_lt hi, Nat.mod_eq_of_lt hi]; simp
  · rintro ⟨rfl, rfl⟩
    have := Nat.div_add_mod l B
    rw [Nat.mul_comm]; exact this
theorem Cfg.bk {C : Cfg} (h : C.Ok) : (C.banks.toNat : Int) = C.banks ∧ 0 < C.banks.toNat ∧ C.banks.toNat ≤ 4 := by unfold Cfg.Ok at h; omega
/-- the lines of a bank -/
def bkC (B i : Nat) (mem : Nat → Ln) : Nat → List Value := fun k => lnE (mem (k * B + i))
theorem bkC_len {B i : Nat} {mem : Nat → Ln} (k : Nat) : (bkC B i mem k).length = 2 := rfl
theorem updA_self {α : Type} {f : Nat → α} {i : Nat} : updA f i (f i) = f := by
  funext j; unfold updA; split
  · rename_i h; rw [h]
  · rfl
theorem bkC_at {B l : Nat} {mem : Nat → Ln} (hB : 0 < B) : bkC B (l % B) mem (l / B) = lnE (mem l) := by
  unfold bkC; rw [(bank_no (Nat.mod_lt l hB)).2 ⟨rfl, rfl⟩]
theorem bkC_upd {B l : Nat} {mem : Nat → Ln} {v : Ln} (hB : 0 < B) : updA (bkC B (l % B) mem) (l / B) (lnE v) = bkC B (l % B) (updA mem l v) := by
  funext k
  unfold bkC updA
  have := (bank_no (l := l) (k := k) (Nat.mod_lt l hB))
  by_cases h : k = l / B
  · rw [if_pos h, if_pos (this.2 ⟨h, rfl⟩)]
  · rw [if_neg h, if_neg (fun e => h (this.1 e).1)]
theorem bkC_ne {B l i : Nat} {mem : Nat → Ln} {v : Ln} (hi : i < B) (h : i ≠ l % B) : bkC B i (updA mem l v) = bkC B i mem := by
  funext k
  unfold bkC updA
  rw [if_neg (fun e => h ((bank_no hi).1 e).2)]
theorem cntB_le {n B i : Nat} (hB : 0 < B) : cntB n B i ≤ n := by
  unfold cntB
  refine Nat.le_of_lt_succ (Nat.div_lt_of_lt_mul ?_)
  rw [Nat.mul_succ]
  have : n ≤ B * n := Nat.le_mul_of_pos_left _ hB
  omega
def mem0 : Nat → Ln := fun _ => (0, 0)
end Go.Hm
end
section
namespace Go.Is
open Go Go.Ab
def opsL : List (List UInt8 × List Int) := [([], [0, 0, 0]), ([115, 101, 116], [1, 2, 0]), ([97, 100, 100], [1, 1, 1]), ([108, 111, 97, 100], [1, 1, 0]), ([115, 116, 111, 114, 101], [1, 1, 0]), ([115, 119, 97, 112], [1, 1, 0]), ([102, 101, 110, 99, 101], [0, 0, 0]),
  ([119, 111, 114, 108, 100], [3, 0, 0]), ([99, 97, 108, 108], [4, 1, 1]), ([106, 117, 109, 112], [5, 0, 0]), ([122, 101, 114, 111], [1, 5, 0]), ([104, 97, 108, 116], [0, 0, 0])]
def opsE : List Value := opsL.flatMap fun r => tx r.1 :: r.2.map I
structure Ins where
  op : Int
  a : Int
  b : Int
  c : Int
  deriving DecidableEq
def Ins.enc (x : Ins) : List Value := [I x.op, I x.a, I x.b, I x.c]
def wordO (o : Nat) : List UInt8 := (opsL.getD o ([], [])).1
def whatO (o : Nat) : List Int := (opsL.getD o ([], [])).2
def isO (x : Int) : Bool := decide (1 ≤ x ∧ x < 12)
def fitsV (what v many : Int) : Bool :=
  if what = 1 then decide (0 ≤ v ∧ v < 4) else if what = 2 then true else if what = 3 then decide (1 ≤ v ∧ v ≤ 3) else if what = 4 then decide (1 ≤ v ∧ v ≤ 4) else if what = 5 then decide (0 ≤ v ∧ v ≤ many) else decide (v = 0)
def Ins.vals (x : Ins) : List Int := [x.a, x.b, x.c]
def Ins.pairs (x : Ins) : List (Int × Int) := (whatO x.op.toNat).zip x.vals
def mayV (x : Ins) (many : Int) : Int := if isO x.op then (if (x.pairs.all fun p => fitsV p.1 p.2 many) then 0 else 10) else 15
def ckF (many : Int) : List Ins → Nat → Int × Int
  | [], _ => (0, 0)
  | x :: l, i => if mayV x many ≠ 0 then ((i : Int) + 1, mayV x many) else ckF many l (i + 1)
def checkV (p : List Ins) : Int × Int := if 32 < p.length then (0, 11) else ckF p.length p 0
/-- the numbers ahead of the first one that the op does not have -/
def used : List (Int × Int) → List Int
  | [] => []
  | p :: l => if p.1 = 0 then [] else p.2 :: used l
def numT (vs : List Int) : List UInt8 := vs.flatMap fun v => 32 :: Lib.itoa v
def lineV (x : Ins) : List UInt8 := wordO x.op.toNat ++ numT (used x.pairs)
def textV (p : List Ins) : List UInt8 := p.flatMap fun x => lineV x ++ [10]
def printV (p : List Ins) : List UInt8 × Int := if (checkV p).2 = 0 then (textV p, 0) else ([], (checkV p).2)
def inR (n : Int) : Prop := -9223372036854775808 ≤ n ∧ n ≤ 9223372036854775807
def Ins.inR (x : Ins) : Prop := Is.inR x.a ∧ Is.inR x.b ∧ Is.inR x.c
theorem o12 {k : Nat} (h : k < 12) : k = 0 ∨ k = 1 ∨ k = 2 ∨ k = 3 ∨ k = 4 ∨ k = 5 ∨ k = 6 ∨ k = 7 ∨ k = 8 ∨ k = 9 ∨ k = 10 ∨ k = 11 := by omega
theorem ops_word {k : Nat} (h : k < 12) : opsE[k * 4]? = some (tx (wordO k)) := by
  rcases o12 h with rfl | rfl | rfl | rfl | rfl | rfl | rfl | rfl | rfl | rfl | rfl | rfl <;> rfl
theorem ops_what {k i : Nat} (h : k < 12) (hi : i < 3) : opsE[k * 4 + (1 + i * 1)]? = some (I ((whatO k).getD i 0)) := by
  have h3 : i = 0 ∨ i = 1 ∨ i = 2 := by omega
  rcases o12 h with rfl | rfl | rfl | rfl | rfl | rfl | rfl | rfl | rfl | rfl | rfl | rfl <;> rcases h3 with rfl | rfl | rfl <;> rfl
theorem what_len {k : Nat} (h : k < 12) : (whatO k).length = 3 := by
  rcases o12 h with rfl | rfl | rfl | rfl | rfl | rfl | rfl | rfl | rfl | rfl | rfl | rfl <;> rfl
theorem word_len {k : Nat} (h : k < 12) : (wordO k).length ≤ 5 := by
  rcases o12 h with rfl | rfl | rfl | rfl | rfl | rfl | rfl | rfl | rfl | rfl | rfl | rfl <;> decide
theorem pairs_len {x : Ins} (h : isO x.op = true) : x.pairs.length = 3 := by
  have := of_decide_eq_true h
  unfold Ins.pairs
  rw [List.length_zip, what_len (by omega)]
  rfl
theorem pairs_at {x : Ins} (h : isO x.op = true) {i : Nat} (hi : i < 3) : x.pairs[i]? = some ((whatO x.op.toNat).getD i 0, x.vals.getD i 0) := by
  have := of_decide_eq_true h
  have h1 := what_len (k := x.op.toNat) (by omega)
  unfold Ins.pairs
  rw [List.getElem?_zip_eq_some]
  refine ⟨?_, ?_⟩
  · show (whatO x.op.toNat)[i]? = some ((whatO x.op.toNat).getD i 0)
    rw [List.getD_eq_getElem?_getD, List.getElem?_eq_getElem (by omega)]; rfl
  · show x.vals[i]? = some (x.vals.getD i 0)
    rw [List.getD_eq_getElem?_getD, List.getElem?_eq_getElem (by simp [Ins.vals]; omega)]; rfl
theorem used_all : ∀ (l : List (Int × Int)), (∀ p ∈ l, p.1 ≠ 0) → used l = l.map (·.2)
  | [], _ => rfl
  | p :: l, h => by
    rw [used, if_neg (h p List.mem_cons_self), used_all l fun q hq => h q (List.mem_cons_of_mem _ hq)]
    rfl
theorem used_pre {x : Int × Int} (hx : x.1 = 0) : ∀ (done rest : List (Int × Int)), (∀ p ∈ done, p.1 ≠ 0) → used (done ++ x :: rest) = done.map (·.2)
  | [], rest, _ => by rw [List.nil_append, used, if_pos hx]; rfl
  | p :: l, rest, h => by
    rw [List.cons_append, used, if_neg (h p List.mem_cons_self), used_pre hx l rest fun q hq => h q (List.mem_cons_of_mem _ hq)]
    rfl
theorem used_sub : ∀ (l : List (Int × Int)) (v : Int), v ∈ used l → ∃ p ∈ l, p.2 = v
  | [], v, h => by simp [used] at h
  | p :: l, v, h => by
    rw [used] at h
    split at h
    · simp at h
    · rcases List.mem_cons.1 h with rfl | h
      · exact ⟨p, List.mem_cons_self, rfl⟩
      · obtain ⟨q, hq, e⟩ := used_sub l v h
        exact ⟨q, List.mem_cons_of_mem _ hq, e⟩
theorem used_len : ∀ (l : List (Int × Int)), (used l).length ≤ l.length
  | [] => by simp [used]
  | p :: l => by
    rw [used]
    split
    · simp
    · have := used_len l; simp; omega
theorem pair_inR {x : Ins} (h : x.inR) {p : Int × Int} (hp : p ∈ x.pairs) : inR p.2 := by
  have : p.2 ∈ x.vals := (List.of_mem_zip hp).2
  simp only [Ins.vals, List.mem_cons, List.not_mem_nil, or_false] at this
  obtain ⟨h1, h2, h3⟩ := h
  rcases this with e | e | e <;> rw [e] <;> assumption
theorem numT_len : ∀ (l : List Int), (∀ v ∈ l, inR v) → (numT l).length ≤ l.length * 21
  | [], _ => by simp [numT]
  | v :: l, h => by
    have h1 := numT_len l fun w hw => h w (List.mem_cons_of_mem _ hw)
    have h2 := itoa_len (h v List.mem_cons_self)
    have : numT (v :: l) = 32 :: Lib.itoa v ++ numT l := rfl
    rw [this]
    simp
    omega
theorem line_len {x : Ins} (ho : isO x.op = true) (h : x.inR) : (lineV x).length ≤ 68 := by
  have h1 := of_decide_eq_true ho
  have h2 := word_len (k := x.op.toNat) (by omega)
  have h3 := used_len x.pairs
  rw [pairs_len ho] at h3
  have h4 := numT_len (used x.pairs) fun v hv => by
    obtain ⟨p, hp, rfl⟩ := used_sub _ _ hv
    exact pair_inR h hp
  unfold lineV
  rw [List.length_append]
  omega
theorem ckF_ok {many : Int} : ∀ (l : List Ins) (i : Nat), (ckF many l i).2 = 0 → ∀ x ∈ l, mayV x many = 0
  | [], _, _, x, hx => by simp at hx
  | y :: l, i, h, x, hx => by
    rw [ckF] at h
    split at h
    · rename_i hn; exact absurd h hn
    · rename_i hn
      rcases List.mem_cons.1 hx with rfl | hx
      · omega
      · exact ckF_ok l (i + 1) h x hx
theorem may_is {x : Ins} {many : Int} (h : mayV x many = 0) : isO x.op = true := by
  unfold mayV at h
  split at h
  · assumption
  · cases h
theorem check_ok {p : List Ins} (h : (checkV p).2 = 0) : p.length ≤ 32 ∧ ∀ x ∈ p, mayV x p.length = 0 := by
  unfold checkV at h
  split at h
  · cases h
  · exact ⟨by omega, ckF_ok p 0 h⟩
end Go.Is
end
section
namespace Go.At
open Go Go.Ab Go.Hm Go.Is
structure Ev where
  core : Int
  at' : Int
  op : Int
  world : Int
  word : Int
  value : Int
  code : Int
  deriving DecidableEq
def Ev.enc (x : Ev) : List Value := [I x.core, I x.at', I x.op, I x.world, I x.word, I x.value, I x.code]
theorem Ev.enc_len (x : Ev) : x.enc.length = 7 := rfl
def ev0 : Ev := ⟨0, 0, 0, 0, 0, 0, 0⟩
structure Seat where
  regs : Nat → Int
  at' : Int
  world : Int
  over : Bool
  prog : List Ins
def Seat.core (s : Seat) : List Value := [I (s.regs 0), I (s.regs 1), I (s.regs 2), I (s.regs 3), I s.at', I s.world, .bool s.over]
def opAt (p : List Ins) (a : Int) : Ins := p.getD a.toNat ⟨0, 0, 0, 0⟩
def overB (p : List Ins) (a : Int) : Bool := if (p.length : Int) ≤ a then true else decide ((opAt p a).op = 11)
def Seat.turn (s : Seat) (a : Int) : Seat := { s with at' := a, over := overB s.prog a }
def Seat.setR (s : Seat) (i v : Int) : Seat := { s with regs := updA s.regs i.toNat v }
def Seat.setW (s : Seat) (v : Int) : Seat := { s with world := v }
/-- a word of memory -/
def wordG (mem : Nat → Ln) (w : Nat) : Int := if w % 2 = 0 then (mem (w / 2)).1 else (mem (w / 2)).2
def wordS (mem : Nat → Ln) (w : Nat) (v : Int) : Nat → Ln := updA mem (w / 2) (if w % 2 = 0 then (v, (mem (w / 2)).2) else ((mem (w / 2)).1, v))
def scrub (mem : Nat → Ln) (g : Nat) : Nat → Ln := updA (updA mem (g * 2) (0, 0)) (g * 2 + 1) (0, 0)
structure AM where
  cfg : Cfg
  seats : Nat → Seat
  owners : List Int
  mem : Nat → Ln
def AM.setS (m : AM) (i : Nat) (s : Seat) : AM := { m with seats := updA m.seats i s }
def AM.setM (m : AM) (mem : Nat → Ln) : AM := { m with mem := mem }
def AM.setO (m : AM) (o : List Int) : AM := { m with owners := o }
/-- may a world have a granule that someone owns -/
def mayT (world owner : Int) : Bool := if 0 ≤ world ∧ world ≤ 3 ∧ 0 ≤ owner ∧ owner ≤ 4 then decide (world = 0 ∨ owner = world ∨ owner = 4) else false
def AM.may (m : AM) (world word : Int) : Bool := if 0 ≤ word ∧ word < m.cfg.lines * 2 then mayT world (m.owners.getD (word.toNat / 4) 0) else false
/-- what an access does: the machine, the value, the code -/
def AM.access (m : AM) (i : Nat) (x : Ins) : AM × Int × Int :=
  if m.may (m.seats i).world ((m.seats i).regs x.b.toNat) then
    if x.op = 3 then (m.setS i ((m.seats i).setR x.a (wordG m.mem ((m.seats i).regs x.b.toNat).toNat)), wordG m.mem ((m.seats i).regs x.b.toNat).toNat, 0)
    else if x.op = 4 then (m.setM (wordS m.mem ((m.seats i).regs x.b.toNat).toNat ((m.seats i).regs x.a.toNat)), (m.seats i).regs x.a.toNat, 0)
    else ((m.setM (wordS m.mem ((m.seats i).regs x.b.toNat).toNat ((m.seats i).regs x.a.toNat))).setS i ((m.seats i).setR x.a (wordG m.mem ((m.seats i).regs x.b.toNat).toNat)), wordG m.mem ((m.seats i).regs x.b.toNat).toNat, 0)
  else (m, 0, 19)
/-- what a call answers: who has it then, whether it is scrubbed, and the error -/
def judgeV (call world owner to : Int) : Int × Bool × Int :=
  if ¬ ((0 ≤ world ∧ world ≤ 3) ∧ (0 ≤ owner ∧ owner ≤ 4)) then (0, false, 10)
  else if call = 1 then (if world ≠ 0 then (0, false, 18) else if owner ≠ 0 then (0, false, 16) else if ¬ (1 ≤ to ∧ to ≤ 3) then (0, false, 1) else (to, true, 0))
  else if call = 2 then (if owner = 0 then (0, false, 16) else if world ≠ 0 ∧ world ≠ owner then (0, false, 18) else (0, true, 0))
  else if call = 3 then (if world = 0 ∨ world ≠ owner then (0, false, 18) else if ¬ (1 ≤ to ∧ to ≤ 3) ∨ to = owner then (0, false, 1) else (to, true, 0))
  else if call = 4 then (if owner = 4 then (0, false, 16) else if world ≠ owner then (0, false, 18) else (4, false, 0))
  else (0, false, 15)
def AM.call (m : AM) (call world granule to : Int) (busy : Bool) : AM × Int :=
  if ¬ (0 ≤ granule ∧ granule < m.owners.length) then (m, 10)
  else if busy then (m, 17)
  else if (judgeV call world (m.owners.getD granule.toNat 0) to).2.2 ≠ 0 then (m, (judgeV call world (m.owners.getD granule.toNat 0) to).2.2)
  else ((m.setO (m.owners.set granule.toNat (judgeV call world (m.owners.getD granule.toNat 0) to).1)).setM (if (judgeV call world (m.owners.getD granule.toNat 0) to).2.1 then scrub m.mem granule.toNat else m.mem), 0)
/-- the seat that is turned -/
def AM.turn (m : AM) (i : Nat) (a : Int) : AM := m.setS i ((m.seats i).turn a)
def AM.evOf (m : AM) (i : Nat) : Ev := ⟨i, (m.seats i).at', (opAt (m.seats i).prog (m.seats i).at').op, (m.seats i).world, 0, 0, 0⟩
/-- what an instruction does ahead of the turn: the machine, word, value, code, and the next place -/
def AM.does (m : AM) (i : Nat) (x : Ins) (busy : Bool) : AM × Int × Int × Int × Int :=
  if x.op = 1 then (m.setS i ((m.seats i).setR x.a x.b), 0, x.b, 0, (m.seats i).at' + 1)
  else if x.op = 2 then (m.setS i ((m.seats i).setR x.a (wr ((m.seats i).regs x.b.toNat + (m.seats i).regs x.c.toNat))), 0, wr ((m.seats i).regs x.b.toNat + (m.seats i).regs x.c.toNat), 0, (m.seats i).at' + 1)
  else if x.op = 3 ∨ x.op = 4 ∨ x.op = 5 then ((m.access i x).1, (m.seats i).regs x.b.toNat, (m.access i x).2.1, (m.access i x).2.2, (m.seats i).at' + 1)
  else if x.op = 7 then (if (m.seats i).world = 0 then (m.setS i ((m.seats i).setW x.a), 0, x.a, 0, (m.seats i).at' + 1) else (m, 0, x.a, 18, (m.seats i).at' + 1))
  else if x.op = 8 then ((m.call x.a (m.seats i).world ((m.seats i).regs x.b.toNat) ((m.seats i).regs x.c.toNat) busy).1.setS i ((m.seats i).setR x.b (m.call x.a (m.seats i).world ((m.seats i).regs x.b.toNat) ((m.seats i).regs x.c.toNat) busy).2), (m.seats i).regs x.b.toNat, (m.seats i).regs x.c.toNat, (m.call x.a (m.seats i).world ((m.seats i).regs x.b.toNat) ((m.seats i).regs x.c.toNat) busy).2, (m.seats i).at' + 1)
  else if x.op = 9 then (m, 0, x.a, 0, x.a)
  else if x.op = 10 then (m, 0, (m.seats i).regs x.a.toNat, 0, if (m.seats i).regs x.a.toNat = 0 then x.b else (m.seats i).at' + 1)
  else (m, 0, 0, 0, (m.seats i).at' + 1)
def AM.step (m : AM) (core : Int) (busy : Bool) : AM × Ev × Int :=
  if ¬ (0 ≤ core ∧ core < m.cfg.cores) then (m, ev0, 10)
  else if (m.seats core.toNat).over then (m, ev0, 20)
  else
    let s := m.seats core.toNat
    let x := opAt s.prog s.at'
    let r := m.does core.toNat x busy
    (r.1.turn core.toNat r.2.2.2.2, ⟨core, s.at', x.op, s.world, r.2.1, r.2.2.1, r.2.2.2.1⟩, 0)
/-- what holds of a seat -/
def Seat.Ok (s : Seat) : Prop := 0 ≤ s.at' ∧ s.at' ≤ 32 ∧ s.over = overB s.prog s.at' ∧ s.prog.length ≤ 32 ∧ ∀ x ∈ s.prog, mayV x s.prog.length = 0
structure AM.Ok (m : AM) : Prop where
  cfg : m.cfg.Ok
  seats : ∀ i : Nat, (i : Int) < m.cfg.cores → (m.seats i).Ok
  owners : (m.owners.length : Int) = m.cfg.granules
/-- what is wrong with what a machine is made of -/
def progs : List (List Ins) → Int
  | [] => 0
  | p :: l => if (checkV p).2 ≠ 0 then (checkV p).2 else progs l
def within (a b : Int) (l : List Int) : Bool := l.all fun x => decide (a ≤ x ∧ x ≤ b)
def newE (C : Cfg) (ps : List (List Ins)) (ws os vs : List Int) : Int :=
  if ¬ C.Ok then 10
  else if (ps.length : Int) ≠ C.cores ∨ (ws.length : Int) ≠ C.cores ∨ (os.length : Int) ≠ C.granules ∨ vs.length ≠ C.lines * 2 then 1
  else if progs ps ≠ 0 then progs ps
  else if ¬ (within 0 3 ws = true ∧ within 0 4 os = true) then 10
  else 0
def words (mem : Nat → Ln) : List Int → Nat → Nat → Ln
  | [], _ => mem
  | v :: l, i => words (wordS mem i v) l (i + 1)
def seat0 (p : List Ins) (w : Int) : Seat := { regs := fun _ => 0, at' := 0, world := w, over := overB p 0, prog := p }
def newM (C : Cfg) (ps : List (List Ins)) (ws os vs : List Int) : AM := ⟨C, fun i => seat0 (ps.getD i []) (ws.getD i 0), os, words mem0 vs 0⟩
/-- one event of a log -/
def busyE (x : Ev) : Bool := decide (x.code = 17)
def fitE (m : AM) (x : Ev) : Int := if (m.step x.core (busyE x)).2.2 = 20 then 20 else if (m.step x.core (busyE x)).2.2 ≠ 0 ∨ (m.step x.core (busyE x)).2.1 ≠ x then 16 else 0
def againV : AM → List Ev → Nat → AM × Nat × Int
  | m, [], n => (m, n, 0)
  | m, x :: l, n => if fitE m x ≠ 0 then (m, n, fitE m x) else againV (m.step x.core (busyE x)).1 l (n + 1)
/-! ### What stays -/
theorem seat_setR_prog {s : Seat} {i v : Int} : (s.setR i v).prog = s.prog := rfl
theorem access_keeps {m : AM} {i : Nat} {x : Ins} : (m.access i x).1.cfg = m.cfg ∧ (m.access i x).1.owners = m.owners ∧ (∀ j, j ≠ i → (m.access i x).1.seats j = m.seats j) ∧ ((m.access i x).1.seats i).prog = (m.seats i).prog ∧ ((m.access i x).1.seats i).at' = (m.seats i).at' := by
  unfold AM.access
  repeat' split
  all_goals simp only [AM.setS, AM.setM, updA_same, Seat.setR, true_and, and_true, and_self]
  all_goals first | (intro j hj; rw [updA_ne hj]) | skip
  all_goals simp
theorem call_keeps {m : AM} {c w g t : Int} {b : Bool} : (m.call c w g t b).1.cfg = m.cfg ∧ (m.call c w g t b).1.owners.length = m.owners.length ∧ (m.call c w g t b).1.seats = m.seats := by
  unfold AM.call
  repeat' split
  all_goals simp [AM.setO, AM.setM]
theorem does_keeps {m : AM} {i : Nat} {x : Ins} {b : Bool} : (m.does i x b).1.cfg = m.cfg ∧ (m.does i x b).1.owners.length = m.owners.length ∧ (∀ j, j ≠ i → (m.does i x b).1.seats j = m.seats j) ∧ ((m.does i x b).1.seats i).prog = (m.seats i).prog := by
  have ha := access_keeps (m := m) (i := i) (x := x)
  have hc := call_keeps (m := m) (c := x.a) (w := (m.seats i).world) (g := (m.seats i).regs x.b.toNat) (t := (m.seats i).regs x.c.toNat) (b := b)
  unfold AM.does
  repeat' split
  all_goals first
    | exact ⟨ha.1, by rw [ha.2.1], ha.2.2.1, ha.2.2.2.1⟩
    | (refine ⟨hc.1, hc.2.1, fun j hj => ?_, ?_⟩
       · simp only [AM.setS, updA_ne hj, hc.2.2]
       · simp only [AM.setS, updA_same, Seat.setR])
    | exact ⟨rfl, rfl, fun _ _ => rfl, rfl⟩
    | (refine ⟨rfl, rfl, fun j hj => ?_, ?_⟩
       · simp only [AM.setS, updA_ne hj]
       · simp only [AM.setS, updA_same, Seat.setR, Seat.setW])
theorem may_fits {x : Ins} {n : Int} (h : mayV x n = 0) : (1 ≤ x.op ∧ x.op < 12) ∧ fitsV ((whatO x.op.toNat).getD 0 0) x.a n = true ∧ fitsV ((whatO x.op.toNat).getD 1 0) x.b n = true ∧ fitsV ((whatO x.op.toNat).getD 2 0) x.c n = true := by
  unfold mayV at h
  split at h
  · rename_i ho
    split at h
    · rename_i hp
      have hall := List.all_eq_true.1 hp
      refine ⟨of_decide_eq_true ho, ?_, ?_, ?_⟩
      · exact hall _ (List.mem_of_getElem? (pairs_at ho (i := 0) (by omega)))
      · exact hall _ (List.mem_of_getElem? (pairs_at ho (i := 1) (by omega)))
      · exact hall _ (List.mem_of_getElem? (pairs_at ho (i := 2) (by omega)))
    · cases h
  · cases h
/-- what is known of an instruction's numbers -/
structure Fits (x : Ins) (n : Int) : Prop where
  r1 : x.op = 1 ∨ x.op = 2 ∨ x.op = 3 ∨ x.op = 4 ∨ x.op = 5 ∨ x.op = 10 → 0 ≤ x.a ∧ x.a < 4
  r2 : x.op = 2 ∨ x.op = 3 ∨ x.op = 4 ∨ x.op = 5 ∨ x.op = 8 → 0 ≤ x.b ∧ x.b < 4
  r3 : x.op = 2 ∨ x.op = 8 → 0 ≤ x.c ∧ x.c < 4
  p1 : x.op = 9 → 0 ≤ x.a ∧ x.a ≤ n
  p2 : x.op = 10 → 0 ≤ x.b ∧ x.b ≤ n
theorem may_Fits {x : Ins} {n : Int} (h : mayV x n = 0) : Fits x n := by
  obtain ⟨_, h1, h2, h3⟩ := may_fits h
  refine ⟨fun e => ?_, fun e => ?_, fun e => ?_, fun e => ?_, fun e => ?_⟩
  · rcases e with e | e | e | e | e | e <;> rw [e] at h1 <;> exact of_decide_eq_true h1
  · rcases e with e | e | e | e | e <;> rw [e] at h2 <;> exact of_decide_eq_true h2
  · rcases e with e | e <;> rw [e] at h3 <;> exact of_decide_eq_true h3
  · rw [e] at h1; exact of_decide_eq_true h1
  · rw [e] at h2; exact of_decide_eq_true h2
theorem over_lt {p : List Ins} {a : Int} (h : overB p a = false) : a < p.length := by
  unfold overB at h
  split at h
  · cases h
  · omega
theorem opAt_mem {p : List Ins} {a : Int} (h0 : 0 ≤ a) (h : a < p.length) : opAt p a ∈ p := by
  unfold opAt
  rw [List.getD_eq_getElem?_getD, List.getElem?_eq_getElem (by omega)]
  exact List.getElem_mem _
theorem does_next {m : AM} {i : Nat} {x : Ins} {b : Bool} {n : Int} (hf : Fits x n) (h0 : 0 ≤ (m.seats i).at') (hn : (m.seats i).at' < n) : 0 ≤ (m.does i x b).2.2.2.2 ∧ (m.does i x b).2.2.2.2 ≤ n := by
  unfold AM.does
  repeat' split
  all_goals first
    | (have := hf.p1 ‹_›; omega)
    | skip
  all_goals simp only []
  all_goals first
    | omega
    | (have := hf.p2 ‹_›; omega)
theorem step_cfg {m : AM} {c : Int} {b : Bool} : (m.step c b).1.cfg = m.cfg := by
  unfold AM.step
  split
  · rfl
  split
  · rfl
  · exact (does_keeps (m := m)).1
theorem step_Ok {m : AM} (hm : m.Ok) (c : Int) (b : Bool) : (m.step c b).1.Ok := by
  unfold AM.step
  split
  · exact hm
  rename_i h1
  split
  · exact hm
  rename_i h2
  obtain ⟨n, rfl⟩ : ∃ n : Nat, c = n := ⟨c.toNat, by omega⟩
  have hs := hm.seats n (by omega)
  simp only [Int.toNat_natCast] at h2 ⊢
  obtain ⟨k1, k2, k3, k4⟩ := does_keeps (m := m) (i := n) (x := opAt (m.seats n).prog (m.seats n).at') (b := b)
  have hlt := over_lt (p := (m.seats n).prog) (a := (m.seats n).at') (by rw [← hs.2.2.1]; simpa using h2)
  have hf := may_Fits (hs.2.2.2.2 _ (opAt_mem hs.1 hlt))
  have hnx := does_next (m := m) (i := n) (b := b) hf hs.1 hlt
  refine ⟨?_, fun j hj => ?_, ?_⟩
  · show (AM.does m n _ b).1.cfg.Ok
    rw [k1]; exact hm.cfg
  · have hj' : (j : Int) < m.cfg.cores := by rw [← k1]; exact hj
    by_cases e : j = n
    · subst e
      have e1 : ((m.does j (opAt (m.seats j).prog (m.seats j).at') b).1.turn j (m.does j (opAt (m.seats j).prog (m.seats j).at') b).2.2.2.2).seats j = ((m.does j (opAt (m.seats j).prog (m.seats j).at') b).1.seats j).turn (m.does j (opAt (m.seats j).prog (m.seats j).at') b).2.2.2.2 := updA_same
      rw [e1]
      unfold Seat.Ok Seat.turn
      simp only [k4]
      exact ⟨hnx.1, by have := hs.2.2.2.1; omega, trivial, hs.2.2.2.1, hs.2.2.2.2⟩
    · have e1 : ((m.does n (opAt (m.seats n).prog (m.seats n).at') b).1.turn n (m.does n (opAt (m.seats n).prog (m.seats n).at') b).2.2.2.2).seats j = (m.does n (opAt (m.seats n).prog (m.seats n).at') b).1.seats j := updA_ne e
      rw [e1, k3 j e]
      exact hm.seats j hj'
  · show (((AM.does m n _ b).1.owners.length : Nat) : Int) = (AM.does m n _ b).1.cfg.granules
    rw [k1, k2]; exact hm.owners
end Go.At
end
section
namespace Go.Proofs.YtincdgimnjofpaaDoor
open Go Go.Ab Go.Hm
attribute [local irreducible] thn Br ld1 ldN stV alc alcAt alcS alcSAt resv padd nilV extV part1 partN lenS lenT biI biT biB biP biS biF biE biA unV idxS idxA pickV appV copyV clearV slS slA slT mkS blkOf at1 atN atS convI convS minV maxV Cl OkF OkR EndX endV beginV defersOf setLoop closeMarks
variable {G : Bg} {h : AH} {L L' : List HP}
theorem check_loop {C : Cfg} {p : Nat} {Q : Value → AH → Prop} (hs : Hs G h (seg p 0 C.enc :: L)) : ∀ (f i : Nat), i + f = 7 → Q (I (C.ckF f i)) h → A21_1 Q (pt p 0 0) (I 0) (.agg ⟨limE⟩) (I i) h := by
  intro f
  induction f with
  | zero =>
    intro i hi hq
    exact b21_1 (r_ltI (r_brF (by omega) hq))
  | succ f ih =>
    intro i hi hq
    have h7 : i < 7 := by omega
    refine b21_1 (r_ltI (r_brT (by omega) (b21_2 ?_)))
    have hc : C.enc[0 + i * 1]? = some (I (C.list.getD i 0)) := by
      have : i = 0 ∨ i = 1 ∨ i = 2 ∨ i = 3 ∨ i = 4 ∨ i = 5 ∨ i = 6 := by omega
      rcases this with rfl | rfl | rfl | rfl | rfl | rfl | rfl <;> rfl
    have hl : limE[i]? = some (I (limL.getD i 0)) := by
      have : i = 0 ∨ i = 1 ∨ i = 2 ∨ i = 3 ∨ i = 4 ∨ i = 5 ∨ i = 6 := by omega
      rcases this with rfl | rfl | rfl | rfl | rfl | rfl | rfl <;> rfl
    rw [Cfg.ckF] at hq
    refine r_at1 h7 hl (r_idxAn h7 (r_ld hs hc (r_ltI (r_br (fun h1 => ?_) (fun h1 => r_idxAn h7 (r_ld hs hc (r_gtI (r_br (fun h2 => b21_3 ?_) (fun h2 => b21_4 (r_addI (by omega) (ih (i + 1) (by omega) ?_)))))))))))
    · rw [if_pos (.inl h1)] at hq; exact hq
    · rw [if_pos (.inr h2)] at hq; exact hq
    · rw [if_neg (by omega)] at hq; exact hq
theorem check_ok {C : Cfg} {Q : Value → AH → Prop} (hl : Ob G 0 limE) (hs : Hs G h L) (hk : ∀ h', Hs G h' L → Q (I (if C.Ok then 0 else 10)) h') : Cl Pr K 21 [.agg ⟨C.enc⟩] h Q := by
  refine c21 (b21_0 ?_)
  refine r_bx hs ?_
  intro p h hs
  iterate 7 refine r_padd (r_ld hs rfl ?_)
  refine r_fill (c := C.enc) rfl (r_new hs ?_)
  intro p h hs
  refine r_stW hs rfl rfl rfl rfl ?_
  intro h hs
  refine r_ldNg hs hl rfl ?_
  refine check_loop (C := C) hs 7 0 rfl ?_
  rw [Cfg.ck_eq]
  exact hk _ hs.tail.tail
theorem lines_ok {C : Cfg} (hC : C.Ok) {Q : Value → AH → Prop} (hl : Ob G 0 limE) (hs : Hs G h L) (hk : ∀ h', Hs G h' L → Q (I C.lines) h') : Cl Pr K 37 [.agg ⟨C.enc⟩] h Q := by
  refine c37 (b37_0 ?_)
  refine r_bx hs ?_
  intro p h hs
  refine r_ldN hs (by decide) (l := C.enc) rfl rfl (check_ok hl hs fun h hs => ?_)
  rw [if_pos hC]
  have hb := Cfg.lines_eq hC
  refine r_neI (r_brF (by omega) ?_)
  refine r_padd (r_ld hs rfl (r_mulI (by unfold Cfg.Ok at hC; omega) ?_))
  rw [show C.granules * 2 = (C.lines : Int) from hb.1.symm]
  exact hk _ hs.tail
theorem bankOf_ok {C : Cfg} (hC : C.Ok) {l : Int} {Q : Value → AH → Prop} (hl : Ob G 0 limE) (hs : Hs G h L) (hk : ∀ h', Hs G h' L → Q (if 0 ≤ l ∧ l < C.lines then .tuple ⟨[I (l % C.banks), I 0]⟩ else .tuple ⟨[I 0, I 10]⟩) h') : Cl Pr K 55 [.agg ⟨C.enc⟩, I l] h Q := by
  refine c55 (b55_0 ?_)
  refine r_bx hs ?_
  intro p h hs
  refine r_ltI (r_br (fun h1 => ?_) (fun h1 => ?_))
  · have := hk _ hs.tail
    rw [if_neg (by omega)] at this; exact this
  · refine r_ldN hs (by decide) (l := C.enc) rfl rfl (lines_ok hC hl hs fun h hs => ?_)
    refine r_geI (r_br (fun h2 => ?_) (fun h2 => ?_))
    · have := hk _ hs.tail
      rw [if_neg (by omega)] at this; exact this
    · have := hk _ hs.tail
      rw [if_pos (by omega)] at this
      refine r_padd (r_ld hs rfl (r_rem (by omega) (by unfold Cfg.Ok at hC; omega) ?_))
      exact this
end Go.Proofs.YtincdgimnjofpaaDoor
end
section
namespace Go.Proofs.YtincdgimnjofpaaDoor
open Go Go.Ab Go.Hm
attribute [local irreducible] thn Br ld1 ldN stV alc alcAt alcS alcSAt resv padd nilV extV part1 partN lenS lenT biI biT biB biP biS biF biE biA unV idxS idxA pickV appV copyV clearV slS slA slT mkS blkOf at1 atN atS convI convS minV maxV Cl OkF OkR EndX endV beginV defersOf setLoop closeMarks
variable {G : Bg} {h : AH} {L L' : List HP}
structure BkA where
  r : Int
  w : Int
  a : Option Addr
  cap : Nat
/-- the bank 'i' of 'B', of the first 'n' lines -/
def bankR (n B b o i : Nat) (mem : Nat → Ln) : HP := exH fun x : BkA =>
  sp [seg b o [I x.r, I x.w, .slice x.a (cntB n B i) x.cap], slc 2 101 x.a x.cap (cntB n B i, (List.range (cntB n B i)).flatMap (bkC B i mem))]
theorem bank_open {n B b o i : Nat} {mem : Nat → Ln} (hs : Hs G h (bankR n B b o i mem :: L)) : ∃ r w a cap, Hs G h (seg b o [I r, I w, .slice a (cntB n B i) cap] :: slc 2 101 a cap (cntB n B i, (List.range (cntB n B i)).flatMap (bkC B i mem)) :: L) := by
  obtain ⟨⟨r, w, a, cap⟩, hs⟩ := hs.exE
  exact ⟨r, w, a, cap, hs.unpack⟩
theorem bank_close {n B b o i : Nat} {mem : Nat → Ln} {r w : Int} {a : Option Addr} {cap : Nat} (hs : Hs G h (seg b o [I r, I w, .slice a (cntB n B i) cap] :: slc 2 101 a cap (cntB n B i, (List.range (cntB n B i)).flatMap (bkC B i mem)) :: L)) : Hs G h (bankR n B b o i mem :: L) :=
  Hs.exI (A := fun x : BkA => sp [seg b o [I x.r, I x.w, .slice x.a (cntB n B i) x.cap], slc 2 101 x.a x.cap (cntB n B i, (List.range (cntB n B i)).flatMap (bkC B i mem))]) ⟨r, w, a, cap⟩ (Hs.pack (A := [_, _]) hs)
structure MmA where
  b : Nat
  o : Nat
  cap : Nat
/-- the first 'n' lines of memory -/
def memN (G : Bg) (n mb : Nat) (C : Cfg) (mem : Nat → Ln) : HP := exH fun x : MmA =>
  sp [seg mb 0 (C.enc ++ [.slice (some ⟨x.b, x.o, none⟩) C.banks.toNat x.cap]), hole G 3 99 (some ⟨x.b, x.o, none⟩) x.cap C.banks.toNat x.b x.o, big C.banks.toNat fun i => bankR n C.banks.toNat x.b (x.o + i * 3) i mem]
theorem mem_open {n mb : Nat} {C : Cfg} {mem : Nat → Ln} (hs : Hs G h (memN G n mb C mem :: L)) : ∃ b o cap, Hs G h (seg mb 0 (C.enc ++ [.slice (some ⟨b, o, none⟩) C.banks.toNat cap]) :: hole G 3 99 (some ⟨b, o, none⟩) cap C.banks.toNat b o :: big C.banks.toNat (fun i => bankR n C.banks.toNat b (o + i * 3) i mem) :: L) := by
  obtain ⟨⟨b, o, cap⟩, hs⟩ := hs.exE
  exact ⟨b, o, cap, hs.unpack⟩
theorem mem_close {n mb : Nat} {C : Cfg} {mem : Nat → Ln} {b o cap : Nat} (hs : Hs G h (seg mb 0 (C.enc ++ [.slice (some ⟨b, o, none⟩) C.banks.toNat cap]) :: hole G 3 99 (some ⟨b, o, none⟩) cap C.banks.toNat b o :: big C.banks.toNat (fun i => bankR n C.banks.toNat b (o + i * 3) i mem) :: L)) : Hs G h (memN G n mb C mem :: L) :=
  Hs.exI (A := fun x : MmA => sp [seg mb 0 (C.enc ++ [.slice (some ⟨x.b, x.o, none⟩) C.banks.toNat x.cap]), hole G 3 99 (some ⟨x.b, x.o, none⟩) x.cap C.banks.toNat x.b x.o, big C.banks.toNat fun i => bankR n C.banks.toNat x.b (x.o + i * 3) i mem]) ⟨b, o, cap⟩ (Hs.pack (A := [_, _, _]) hs)
theorem mem_shut {L1 L2 L3 : List HP} (n mb : Nat) (C : Cfg) (mem : Nat → Ln) (b o cap : Nat) (hs : Hs G h L) [k : HasX (seg mb 0 (C.enc ++ [.slice (some ⟨b, o, none⟩) C.banks.toNat cap])) L L1] [k2 : HasX (hole G 3 99 (some ⟨b, o, none⟩) cap C.banks.toNat b o) L1 L2] [k3 : HasX (big C.banks.toNat (fun i => bankR n C.banks.toNat b (o + i * 3) i mem)) L2 L3] : Hs G h (memN G n mb C mem :: L3) :=
  mem_close (b := b) (o := o) (cap := cap) (hs.perm (k.perm.trans ((k2.perm.trans (k3.perm.cons _)).cons _)))
theorem find_ok {C : Cfg} (hC : C.Ok) {mb b o cap l : Nat} {Q : Value → AH → Prop} (hl : Ob G 0 limE) (hs : Hs G h L) [m : Has (seg mb 0) L (C.enc ++ [.slice (some ⟨b, o, none⟩) C.banks.toNat cap]) L'] (h0 : l < C.lines)
    (hk : ∀ h', Hs G h' L → Q (.tuple ⟨[pt b (o + (l % C.banks.toNat) * 3) 0, I (l / C.banks.toNat : Nat), I 0]⟩) h') : Cl Pr K 49 [pt mb 0 0, I l] h Q := by
  have hb := Cfg.bk hC
  refine c49 (b49_0 (r_ptEq (r_brf (b49_1 ?_))))
  refine r_nilP (r_padd (r_ldN hs (by decide) (l := C.enc) rfl rfl (bankOf_ok hC hl hs fun h hs => ?_)))
  rw [if_pos (by omega)]
  refine r_ext rfl (r_ext rfl (r_neI (r_brF (by omega) ?_)))
  refine r_resv hs ?_
  intro r h hs
  refine r_nilP (r_padd (r_ld hs rfl ?_))
  have e1 : (l : Int) % C.banks = ((l % C.banks.toNat : Nat) : Int) := by rw [← hb.1]; simp
  have e2 : (l : Int) / C.banks = ((l / C.banks.toNat : Nat) : Int) := by rw [← hb.1]; simp
  rw [e1]
  refine r_idxN (Nat.mod_lt _ hb.2.1) (r_nilP (r_padd (r_padd (r_ld hs rfl (r_quo (by omega) (by omega) (by have := (Cfg.lines_eq hC).2; omega) ?_)))))
  rw [e2]
  exact hk _ hs.tail
theorem write_ok {C : Cfg} (hC : C.Ok) {mb l : Nat} {mem : Nat → Ln} {v : Ln} {Q : Value → AH → Prop} (hl : Ob G 0 limE) (hs : Hs G h L) [m : Has (memN G C.lines mb C) L mem L'] (h0 : l < C.lines)
    (hk : ∀ h', Hs G h' (memN G C.lines mb C (updA mem l v) :: L') → Q (I 0) h') : Cl Pr K 53 [pt mb 0 0, I l, .agg ⟨lnE v⟩] h Q := by
  have hb := Cfg.bk hC
  have hs := m.of hs
  obtain ⟨b, o, cap, hs⟩ := mem_open hs
  refine c53 (b53_0 (r_bx hs ?_))
  intro p h hs
  refine find_ok hC hl hs h0 fun h hs => ?_
  refine r_ext rfl (r_ext rfl (r_ext rfl (r_neI (r_brF (by omega) (b53_1 ?_)))))
  have hs := (hs.front (big C.banks.toNat fun i => bankR C.lines C.banks.toNat b (o + i * 3) i mem)).bigOut (l % C.banks.toNat) (Nat.mod_lt _ hb.2.1)
  obtain ⟨r, w, a, cp, hs⟩ := bank_open hs
  refine r_nilP (r_padd (r_padd (r_ld hs rfl (r_addW (r_nilP (r_padd (r_padd (r_sto hs rfl rfl rfl rfl ?_))))))))
  intro h hs
  refine r_resv hs ?_
  intro rv h hs
  refine r_nilP (r_padd (r_ld hs rfl (r_ldN hs (by decide) rfl rfl ?_)))
  have hat := cntB_at hb.2.1 h0
  obtain ⟨b2, o2, rfl, H, hs, hback⟩ := Hs.elemF (bkC_len (B := C.banks.toNat) (i := l % C.banks.toNat) (mem := mem)) hat (hs.front (slc 2 101 a cp (cntB C.lines C.banks.toNat (l % C.banks.toNat), (List.range (cntB C.lines C.banks.toNat (l % C.banks.toNat))).flatMap (bkC C.banks.toNat (l % C.banks.toNat) mem))))
  refine r_idxN hat (r_stW hs rfl rfl rfl rfl ?_)
  intro h hs
  refine hk _ ?_
  have hs := hback _ _ _ rfl rfl ((hs.sg (b := b2) (o := o2 + l / C.banks.toNat * 2) (c := lnE v) rfl).front2 (seg b2 (o2 + l / C.banks.toNat * 2) (lnE v)) H)
  rw [bkC_upd hb.2.1] at hs
  have hs := bank_close (hs.sg (b := b) (o := o + l % C.banks.toNat * 3) (c := [I r, I (wr (w + 1)), .slice (some ⟨b2, o2, none⟩) (cntB C.lines C.banks.toNat (l % C.banks.toNat)) cp]) rfl)
  exact mem_close (b := b) (o := o) (cap := cap) ((hs.bigPut (n := C.banks.toNat) (i := l % C.banks.toNat) (fun i => bankR C.lines C.banks.toNat b (o + i * 3) i mem) (fun i => bankR C.lines C.banks.toNat b (o + i * 3) i (updA mem l v)) (Nat.mod_lt _ hb.2.1) (fun i hi hne => by simp only [bankR, bkC_ne hi hne])).to)
theorem memNew_loop {C : Cfg} (hC : C.Ok) {p mb : Nat} {Q : Value → AH → Prop} (hk : ∀ h', Hs G h' (memN G C.lines mb C mem0 :: L) → Q (.tuple ⟨[pt mb 0 0, I 0]⟩) h') : ∀ (f n : Nat) (h : AH) (g : HP), n + f = C.lines → Hs G h (memN G n mb C mem0 :: seg p 0 C.enc :: g :: L) →
    A25_2 Q (pt p 0 0) (pt mb 0 0) (I C.lines) (I n) h := by
  have hb := Cfg.bk hC
  have hln := Cfg.lines_eq hC
  intro f
  induction f with
  | zero =>
    intro n h g hn hs
    have : n = C.lines := by omega
    subst this
    exact b25_2 (r_ltI (r_brF (by omega) (hk _ hs.to)))
  | succ f ih =>
    intro n h g hn hs
    refine b25_2 (r_ltI (r_brT (by omega) (b25_3 ?_)))
    refine r_resv hs ?_
    intro rv h hs
    obtain ⟨b, o, cap, hs⟩ := mem_open (hs.front (memN G n mb C mem0))
    refine r_nilP (r_padd (r_ld hs rfl (r_padd (r_ld hs rfl ?_))))
    have e1 : (n : Int) % C.banks = ((n % C.banks.toNat : Nat) : Int) := by rw [← hb.1]; simp
    refine r_rem (by omega) (by omega) ?_
    rw [e1]
    have hi := Nat.mod_lt n hb.2.1
    refine r_idxN hi ?_
    have hs := (hs.front (big C.banks.toNat fun i => bankR n C.banks.toNat b (o + i * 3) i mem0)).bigOut (n % C.banks.toNat) hi
    obtain ⟨r, w, a, cp, hs⟩ := bank_open hs
    refine r_nilP (r_padd (r_ld hs rfl (r_fill (c := lnE (0, 0)) rfl (r_fill (c := lnE (0, 0)) rfl ?_))))
    refine r_newS hs rfl rfl rfl ?_
    intro a3 h hs
    have hcl := cntB_le (n := n) (B := C.banks.toNat) (i := n % C.banks.toNat) hb.2.1
    refine r_appS hs (by omega) ?_
    intro a4 c4 h hs
    dsimp only
    refine r_nilP (r_padd (r_sto hs rfl rfl rfl rfl ?_))
    intro h hs
    refine r_addI (by omega) ?_
    refine ih (n + 1) h (sp [slc 2 101 (some a3) 1 (1, lnE (0, 0)), frK rv (10, []), g]) (by omega) ?_
    have ec : cntB (n + 1) C.banks.toNat (n % C.banks.toNat) = cntB n C.banks.toNat (n % C.banks.toNat) + 1 := by rw [cntB_succ hi, if_pos rfl]
    have ef : (List.range (cntB n C.banks.toNat (n % C.banks.toNat))).flatMap (bkC C.banks.toNat (n % C.banks.toNat) mem0) ++ lnE (0, 0) = (List.range (cntB (n + 1) C.banks.toNat (n % C.banks.toNat))).flatMap (bkC C.banks.toNat (n % C.banks.toNat) mem0) := by
      rw [ec, List.range_succ, List.flatMap_append]; rfl
    rw [ef, ← ec] at hs
    have hs := bank_close (n := n + 1) (r := r) (w := w) (a := a4) (cap := c4) (b := b) (o := o + n % C.banks.toNat * 3) hs
    exact (mem_shut (n + 1) mb C mem0 b o cap (hs.bigPut (n := C.banks.toNat) (i := n % C.banks.toNat) (fun i => bankR n C.banks.toNat b (o + i * 3) i mem0) (fun i => bankR (n + 1) C.banks.toNat b (o + i * 3) i mem0) hi (fun j hj hne => by simp only [bankR, cntB_succ hj, if_neg hne]))).to
theorem memNew_ok {C : Cfg} (hC : C.Ok) {Q : Value → AH → Prop} (hl : Ob G 0 limE) (hs : Hs G h L) (hk : ∀ mb h', Hs G h' (memN G C.lines mb C mem0 :: L) → Q (.tuple ⟨[pt mb 0 0, I 0]⟩) h') : Cl Pr K 25 [.agg ⟨C.enc⟩] h Q := by
  have hb := Cfg.bk hC
  refine c25 (b25_0 (r_bx hs ?_))
  intro p h hs
  refine r_ldN hs (by decide) (l := C.enc) rfl rfl (check_ok hl hs fun h hs => ?_)
  rw [if_pos hC]
  refine r_neI (r_brF (by omega) (b25_1 (r_resv hs ?_)))
  intro rv h hs
  refine r_ldN hs (by decide) (l := C.enc) rfl rfl (r_padd (r_ld hs rfl (r_mkSI (by omega) (by omega) (by omega) ?_)))
  dsimp only
  refine r_newSAt hs rfl rfl ?_ rfl ?_ ?_
  · rw [zerosA_flat, flat_len (W := 3) (fun _ => rfl)]
  · rw [zerosA_flat]; exact flat_cells (fun _ => rfl) _
  intro a h hs
  obtain ⟨b, o, ha, hs⟩ := Hs.newBig (W := 3) rfl hb.2.1 hs
  cases ha
  refine r_fill (c := C.enc ++ [.slice (some ⟨b, o, none⟩) C.banks.toNat C.banks.toNat]) rfl ?_
  refine r_bxAt hs rfl rfl ?_
  intro mb h hs
  refine r_ldN hs (by decide) (l := C.enc) rfl rfl (lines_ok hC hl hs fun h hs => ?_)
  have hs := (Hs.bigMap (g := fun i => bankR 0 C.banks.toNat b (o + i * 3) i mem0) C.banks.toNat _ (fun i hi h L hs => ?_) (hs.front (big C.banks.toNat fun i => seg b (o + i * 3) [I 0, I 0, .slice none 0 0])))
  · have hs := mem_shut 0 mb C mem0 b o C.banks.toNat hs
    exact memNew_loop hC (hk mb) C.lines 0 h _ (by omega) (hs.to (M := [memN G 0 mb C mem0, seg p 0 C.enc, sp []] ++ L))
  · refine bank_close (r := 0) (w := 0) (a := none) (cap := 0) ?_
    rw [cntB_zero hi]
    exact (slc_nil hs).at2
end Go.Proofs.YtincdgimnjofpaaDoor
end
section
namespace Go.Proofs.YtincdgimnjofpaaDoor
open Go Go.Ab Go.Is
theorem r_idxG {g n sz i : Nat} {x : Int} {k : Value → Prop} (hx : x = (i : Int)) (hi : i < n) (hk : k (pt g (i * sz) 0)) : thn (idxA n sz (.pointer (some ⟨g, 0, none⟩)) (I x)) k := by
  subst hx
  exact r_idxA (b := g) (o := 0) (j := 0) (by omega) (by omega) (by simpa [pt] using hk)
theorem at_lt {α : Type} {l : List α} {i : Nat} (h : i < l.length) : ∃ x, l[i]? = some x ∧ l.drop i = x :: l.drop (i + 1) := ⟨l[i], by simp, List.drop_eq_getElem_cons h⟩
attribute [local irreducible] thn Br ld1 ldN stV alc alcAt alcS alcSAt resv padd nilV extV part1 partN lenS lenT biI biT biB biP biS biF biE biA unV idxS idxA pickV appV copyV clearV slS slA slT mkS blkOf at1 atN atS convI convS minV maxV Cl OkF OkR EndX endV beginV defersOf setLoop closeMarks
variable {G : Bg} {h : AH} {L L' M : List HP} {Q : Value → AH → Prop}
theorem isa_is_ok {x : Int} (hk : Q (.bool (isO x)) h) : Cl Pr K 45 [I x] h Q := by
  refine c45 (b45_0 (r_geI (r_br (fun h1 => r_ltI ?_) (fun h1 => ?_))))
  · rw [show decide (x < 12) = isO x from decide_eq_decide.2 (by omega)]; exact hk
  · rw [show false = isO x from (decide_eq_false (by omega)).symm]; exact hk
theorem isa_fits_ok {what v many : Int} (hk : Q (.bool (fitsV what v many)) h) : Cl Pr K 47 [I what, I v, I many] h Q := by
  unfold fitsV at hk
  refine c47 (b47_0 (r_eqI (r_br (fun c => ?_) (fun n1 => b47_1 (r_eqI (r_br (fun c => ?_) (fun n2 => b47_2 (r_eqI (r_br (fun c => ?_) (fun n3 => b47_3 (r_eqI (r_br (fun c => ?_) (fun n4 => b47_4 (r_eqI (r_br (fun c => ?_) (fun n5 => r_eqI ?_))))))))))))))))
  · rw [if_pos c] at hk
    refine r_geI (r_br (fun h1 => r_ltI ?_) (fun h1 => ?_))
    · rw [show decide (v < 4) = decide (0 ≤ v ∧ v < 4) from decide_eq_decide.2 (by omega)]; exact hk
    · rw [decide_eq_false (by omega)] at hk; exact hk
  · rw [if_neg n1, if_pos c] at hk; exact hk
  · rw [if_neg n1, if_neg n2, if_pos c] at hk
    refine r_geI (r_br (fun h1 => r_leI ?_) (fun h1 => ?_))
    · rw [show decide (v ≤ 3) = decide (1 ≤ v ∧ v ≤ 3) from decide_eq_decide.2 (by omega)]; exact hk
    · rw [decide_eq_false (by omega)] at hk; exact hk
  · rw [if_neg n1, if_neg n2, if_neg n3, if_pos c] at hk
    refine r_geI (r_br (fun h1 => r_leI ?_) (fun h1 => ?_))
    · rw [show decide (v ≤ 4) = decide (1 ≤ v ∧ v ≤ 4) from decide_eq_decide.2 (by omega)]; exact hk
    · rw [decide_eq_false (by omega)] at hk; exact hk
  · rw [if_neg n1, if_neg n2, if_neg n3, if_neg n4, if_pos c] at hk
    refine r_geI (r_br (fun h1 => r_leI ?_) (fun h1 => ?_))
    · rw [show decide (v ≤ many) = decide (0 ≤ v ∧ v ≤ many) from decide_eq_decide.2 (by omega)]; exact hk
    · rw [decide_eq_false (by omega)] at hk; exact hk
  · rw [if_neg n1, if_neg n2, if_neg n3, if_neg n4, if_neg n5] at hk; exact hk
def prE (p : Int × Int) : List Value := [I p.1, I p.2]
theorem isa_numbers_ok {x : Ins} (hs : Hs G h L) (hk : ∀ p h', Hs G h' (seg p 0 x.enc :: L) → Q (.func (.func 54) #[] #[pt p 0 0]) h') : Cl Pr K 46 [.agg ⟨x.enc⟩] h Q := by
  exact c46 (b46_0 (r_bx hs fun p h hs => hk _ _ hs))
theorem isa_numbers_y {x : Ins} {p : Nat} (ho : isO x.op = true) (hg : Ob G 1 opsE) : Yds Pr K G 54 [] [pt p 0 0] (seg p 0 x.enc) (x.pairs.map prE) := by
  intro I' J y L h Q hs hy h1 h2
  have hop := of_decide_eq_true ho
  refine c54 (b54_0 ?_)
  refine r_padd (r_ld hs rfl (r_padd (r_ld hs rfl (r_padd (r_ld hs rfl (r_fill (c := x.vals.map I) rfl ?_))))))
  have loop : ∀ (f i : Nat) (h : AH), i + f = 3 → Hs G h (seg p 0 x.enc :: I' ((x.pairs.drop i).map prE) :: L) → A54_1 Q y (pt p 0 0) (.agg ⟨x.vals.map I⟩) (I i) h := by
    intro f
    induction f with
    | zero =>
      intro i h hi hs
      rw [List.drop_of_length_le (by rw [pairs_len ho]; omega)] at hs
      exact b54_1 (r_ltI (r_brF (by omega) (h1 _ _ hs)))
    | succ f ih =>
      intro i h hi hs
      obtain ⟨q, hq, hd⟩ := at_lt (l := x.pairs) (i := i) (by rw [pairs_len ho]; omega)
      rw [pairs_at ho (by omega)] at hq
      simp only [Option.some.injEq] at hq
      rw [hd] at hs
      have e0 : i = 0 ∨ i = 1 ∨ i = 2 := by omega
      have ev : (x.vals.map I)[i]? = some (I q.2) := by
        rw [← hq]
        rcases e0 with rfl | rfl | rfl <;> rfl
      refine b54_1 (r_ltI (r_brT (by omega) (b54_2 (r_at1 (by omega) ev (r_padd (r_ld hs rfl (r_idxG (i := x.op.toNat) (by omega) (by omega) (r_padd (r_idxAn (by omega) ?_)))))))))
      refine r_ldo hs hg (ops_what (by omega) (by omega)) ?_
      have hv : (whatO x.op.toNat).getD i 0 = q.1 := by rw [← hq]
      rw [hv]
      refine (hy _ _ h _ hs.at2).mono fun v h' hv => ?_
      rcases hv with ⟨rfl, hs'⟩ | ⟨rfl, hs'⟩
      · exact r_not (r_brf (b54_3 (r_addI (by omega) (ih (i + 1) h' (by omega) hs'.at2))))
      · exact r_not (r_brt (h2 _ _ hs'.at2))
  exact loop 3 0 h rfl hs
abbrev myX (p1 p5 : Nat) (many v : Int) (e : Nat → Value) (d l : Nat) (z : LoopState × Option Code) (c : Prop) : HP := sp [puH c, lpT Pr 38 (dcd 442) 22 e d l z, seg p5 0 [I many], seg p1 0 [I v]]
theorem isa_may_ok {x : Ins} {many : Int} (hg : Ob G 1 opsE) (hs : Hs G h L) (hk : ∀ h', Hs G h' L → Q (I (mayV x many)) h') : Cl Pr K 38 [.agg ⟨x.enc⟩, I many] h Q := by
  refine c38 (b38_0 (r_bx hs fun p2 h hs => r_bx hs fun p5 h hs => r_padd (r_ld hs rfl (isa_is_ok (r_not (r_brn (r_brb (fun ho => ?_) (fun ho => ?_))))))))
  rotate_left
  · have := hk h hs.tail.tail
    unfold mayV at this
    rw [if_neg (by rw [ho]; decide)] at this
    exact r_cm0 this
  unfold mayV at hk
  rw [if_pos ho] at hk
  refine b38_1 (r_new hs fun p1 h hs => r_stW hs rfl rfl rfl rfl fun h hs => r_ldN hs (by decide) (l := x.enc) rfl rfl (isa_numbers_ok hs fun p h hs => r_marks hs fun d h hs => ?_))
  intro e he
  refine r_loop hs fun l h hs => r_okR rfl ?_
  have hs : Hs G h (seg p 0 x.enc :: myX p1 p5 many 0 e d l (.ready, none) ((([] : List (Int × Int)).all fun p => fitsV p.1 p.2 many) = true) :: mk d () :: L) := by
    refine Hs.at2 (sp_pu rfl (Hs.pk3 ?_))
    have hs := hs.front3 (lpT Pr 38 (dcd 442) 22 e d l (.ready, none)) (seg p5 0 [I many]) (seg p1 0 [I 0])
    exact hs.to
  refine (isa_numbers_y (p := p) ho hg).fold (X := fun done => myX p1 p5 many 0 e d l (.ready, none) ((done.all fun p => fitsV p.1 p.2 many) = true)) (Z := fun _ y => myX p1 p5 many 10 e d l (.done, some (.exit 0)) (fitsV y.1 y.2 many = false)) hs ?_ ?_ ?_
  · intro done y h M hp hs
    obtain ⟨hd, hs1⟩ := sp_puE hs
    clear hs
    have hs := hs1.un3
    refine r38_0 (r_atv hs) he (b38_2 (r_beginv hs fun h hs => r_ld (b := p5) (o := 0) hs rfl (isa_fits_ok (r_not (r_brn (r_brb (fun h1 => ?_) (fun h1 => ?_)))))))
    · refine r_setv hs fun h hs => .inl ⟨rfl, sp_pu ?_ (Hs.pk3 hs.to)⟩
      rw [List.all_append, hd]
      simp [h1]
    · refine r_stW (b := p1) (o := 0) hs rfl rfl rfl rfl fun h hs => r_setv hs fun h hs => .inr ⟨rfl, sp_pu h1 (Hs.pk3 ?_)⟩
      exact hs.to
  · intro v h hs
    have hs := hs.front (myX p1 p5 many 0 e d l (.ready, none) ((x.pairs.all fun p => fitsV p.1 p.2 many) = true))
    obtain ⟨hd, hs1⟩ := sp_puE hs
    clear hs
    have hs := hs1.un3
    rw [if_pos hd] at hk
    exact r_endv hs fun h hs => r_endN (r_ld (b := p1) (o := 0) hs rfl (r_cm1 hs fun h hs => r_cm0 (hk _ hs.to)))
  · intro done y v h hp hs
    have hs := hs.front (myX p1 p5 many 10 e d l (.done, some (.exit 0)) (fitsV y.1 y.2 many = false))
    obtain ⟨hd, hs1⟩ := sp_puE hs
    clear hs
    have hs := hs1.un3
    rw [if_neg ?_] at hk
    · exact r_endd hs fun h hs => r_endE rfl (r_ld (b := p1) (o := 0) hs rfl (r_cm1 hs fun h hs => r_cm0 (hk _ hs.to)))
    · obtain ⟨ys, hys⟩ := hp
      rw [← hys]
      simp [hd]
theorem isa_check_loop {t : Value} {p : List Ins} {v0 v1 : Value} {e : TypeId} (h1 : v1 = I p.length) (hl : p.length ≤ 32) (hg : Ob G 1 opsE) (hk : ∀ h', Hs G h' (rdS G 4 e t (p.map Ins.enc) :: L) → Q (.tuple ⟨[I (checkV p).1, I (checkV p).2]⟩) h') :
    ∀ (f i : Nat) (h : AH), i + f = p.length → checkV p = ckF p.length (p.drop i) i → Hs G h (rdS G 4 e t (p.map Ins.enc) :: L) → A23_2 Q t t v1 (I i) h := by
  subst h1
  intro f
  induction f with
  | zero =>
    intro i h hi he hs
    rw [List.drop_of_length_le (by omega)] at he
    rw [he] at hk
    exact b23_2 (r_ltI (r_brF (by omega) (hk _ hs)))
  | succ f ih =>
    intro i h hi he hs
    obtain ⟨x, hx, hd⟩ := at_lt (l := p) (i := i) (by omega)
    rw [hd, ckF] at he
    obtain ⟨ta, tc, ht⟩ := rd_slice hs
    refine b23_2 (r_ltI (r_brT (by omega) (b23_3 (r_rd hs (by decide) (i := i) (x := x.enc) (by simp [hx]) (r_new hs fun p3 h hs => ?_)))))
    refine r_stW hs rfl rfl rfl rfl fun h hs => r_ldN hs (by decide) (l := x.enc) rfl rfl ?_
    rw [ht]
    refine r_lenS ?_
    rw [← ht, List.length_map]
    refine isa_may_ok hg hs fun h hs => r_neI (r_br (fun c => ?_) (fun c => ?_))
    · rw [if_pos c] at he
      rw [he] at hk
      exact r_addI (by omega) (hk _ hs.tail)
    · rw [if_neg c] at he
      exact b23_4 (r_addI (by omega) (ih (i + 1) h (by omega) he hs.tail))
theorem isa_check_ok {t : Value} {p : List Ins} {e : TypeId} (hg : Ob G 1 opsE) (hs : Hs G h (rdS G 4 e t (p.map Ins.enc) :: L)) (hk : ∀ h', Hs G h' (rdS G 4 e t (p.map Ins.enc) :: L) → Q (.tuple ⟨[I (checkV p).1, I (checkV p).2]⟩) h') :
    Cl Pr K 23 [t] h Q := by
  obtain ⟨ta, tc, ht⟩ := rd_slice hs
  have len : ∀ {k : Value → Prop}, k (I p.length) → thn (lenS t) k := fun hk => by
    rw [ht]; refine r_lenS ?_; rw [List.length_map]; exact hk
  refine c23 (b23_0 (len (r_gtI (r_br (fun c => ?_) (fun c => ?_)))))
  · have := hk h hs
    unfold checkV at this
    rw [if_pos (by omega)] at this
    exact this
  · refine b23_1 (len (isa_check_loop (v0 := t) rfl (by omega) hg hk p.length 0 h (by omega) ?_ hs))
    unfold checkV
    rw [if_neg (by omega)]
    rfl
end Go.Proofs.YtincdgimnjofpaaDoor
end
section
namespace Go.Proofs.YtincdgimnjofpaaDoor
open Go Go.Ab Go.Hm Go.At
attribute [local irreducible] thn Br ld1 ldN stV alc alcAt alcS alcSAt resv padd nilV extV part1 partN lenS lenT biI biT biB biP biS biF biE biA unV idxS idxA pickV appV copyV clearV slS slA slT mkS blkOf at1 atN atS convI convS minV maxV Cl OkF OkR EndX endV beginV defersOf setLoop closeMarks
variable {G : Bg} {h : AH} {L L' : List HP} {Q : Value → AH → Prop}
theorem lines_any {C : Cfg} (hl : Ob G 0 limE) (hs : Hs G h L) (hk : ∀ h', Hs G h' L → Q (I (if C.Ok then C.lines else 0 : Nat)) h') : Cl Pr K 37 [.agg ⟨C.enc⟩] h Q := by
  by_cases hC : C.Ok
  · rw [if_pos hC] at hk
    exact lines_ok hC hl hs hk
  · rw [if_neg hC] at hk
    refine c37 (b37_0 ?_)
    refine r_bx hs ?_
    intro p h hs
    refine r_ldN hs (by decide) (l := C.enc) rfl rfl (check_ok hl hs fun h hs => ?_)
    rw [if_neg hC]
    exact r_neI (r_brT (by omega) (hk _ hs.tail))
theorem words_any {C : Cfg} (hl : Ob G 0 limE) (hs : Hs G h L) (hk : ∀ h', Hs G h' L → Q (I ((if C.Ok then C.lines else 0 : Nat) * 2 : Nat)) h') : Cl Pr K 22 [.agg ⟨C.enc⟩] h Q := by
  refine c22 (b22_0 (r_bx hs fun p h hs => ?_))
  refine r_ldN hs (by decide) (l := C.enc) rfl rfl (lines_any hl hs fun h hs => ?_)
  have hb : (if C.Ok then C.lines else 0 : Nat) ≤ 32 := by
    split
    · rename_i hC; exact (Cfg.lines_eq hC).2.2
    · omega
  refine r_mulI (by omega) ?_
  have := hk _ hs.tail
  rw [Int.natCast_mul] at this
  exact this
theorem words_ok {C : Cfg} (hC : C.Ok) (hl : Ob G 0 limE) (hs : Hs G h L) (hk : ∀ h', Hs G h' L → Q (I (C.lines * 2 : Nat)) h') : Cl Pr K 22 [.agg ⟨C.enc⟩] h Q :=
  words_any hl hs (by rw [if_pos hC]; exact hk)
theorem lineOf_ok {C : Cfg} (hC : C.Ok) {w : Int} (hl : Ob G 0 limE) (hs : Hs G h L)
    (hk : ∀ h', Hs G h' L → Q (if 0 ≤ w ∧ w < C.lines * 2 then .tuple ⟨[I (w.toNat / 2 : Nat), I (w.toNat % 2 : Nat), I 0]⟩ else .tuple ⟨[I 0, I 0, I 10]⟩) h') : Cl Pr K 48 [.agg ⟨C.enc⟩, I w] h Q := by
  refine c48 (b48_0 (r_bx hs fun p h hs => r_ltI (r_br (fun h1 => ?_) (fun h1 => ?_))))
  · have := hk _ hs.tail
    rw [if_neg (by omega)] at this; exact this
  · refine r_ldN hs (by decide) (l := C.enc) rfl rfl (words_ok hC hl hs fun h hs => r_geI (r_br (fun h2 => ?_) (fun h2 => ?_)))
    · have := hk _ hs.tail
      rw [if_neg (by omega)] at this; exact this
    · have hb := (Cfg.lines_eq hC).2.2
      have := hk _ hs.tail
      rw [if_pos (by omega)] at this
      obtain ⟨n, rfl⟩ : ∃ n : Nat, w = n := ⟨w.toNat, by omega⟩
      refine r_quo (by omega) (by omega) (by omega) (r_rem (by omega) (by omega) ?_)
      exact this
theorem granule_ok {C : Cfg} (hC : C.Ok) {l : Nat} (h0 : l < C.lines) (hl : Ob G 0 limE) (hs : Hs G h L)
    (hk : ∀ h', Hs G h' L → Q (.tuple ⟨[I (l / 2 : Nat), I 0]⟩) h') : Cl Pr K 50 [.agg ⟨C.enc⟩, I l] h Q := by
  have hb := (Cfg.lines_eq hC).2.2
  refine c50 (b50_0 (r_bx hs fun p h hs => r_ltI (r_brF (by omega) ?_)))
  refine r_ldN hs (by decide) (l := C.enc) rfl rfl (lines_ok hC hl hs fun h hs => r_geI (r_brF (by omega) ?_))
  exact r_quo (by omega) (by omega) (by omega) (hk _ hs.tail)
theorem linesOf_ok {C : Cfg} {g : Int} (hs : Hs G h L) (hk : ∀ p q h', Hs G h' (sp [seg p 0 C.enc, seg q 0 [I g]] :: L) → Q (.func (.func 57) #[] #[pt p 0 0, pt q 0 0]) h') : Cl Pr K 52 [.agg ⟨C.enc⟩, I g] h Q :=
  c52 (b52_0 (r_bx hs fun p h hs => r_bx hs fun q h hs => hk p q h (Hs.pk2 hs.at2)))
theorem linesOf_y {C : Cfg} (hC : C.Ok) {g : Nat} (hg : (g : Int) < C.granules) {p q : Nat} (hl : Ob G 0 limE) : Yds Pr K G 57 [] [pt p 0 0, pt q 0 0] (sp [seg p 0 C.enc, seg q 0 [I g]]) ([g * 2, g * 2 + 1].map fun l : Nat => [I l]) := by
  intro I' J y L h Q hs hy h1 h2
  have hb : C.granules ≤ 16 := hC.2.1.2
  have hs := hs.un2
  refine c57 (b57_0 (r_ldN hs (by decide) (l := C.enc) rfl rfl (check_ok hl hs fun h hs => ?_)))
  rw [if_pos hC]
  refine r_neI (r_brF (by omega) (r_ld (b := q) (o := 0) hs rfl (r_ltI (r_brF (by omega) (r_ld (b := q) (o := 0) hs rfl (r_padd (r_ld (b := p) (o := 0) hs rfl (r_geI (r_brF (by omega) (b57_1 ?_)))))))))) 
  have loop : ∀ (f i : Nat) (h : AH), i + f = 2 → Hs G h (seg p 0 C.enc :: seg q 0 [I g] :: I' (([g * 2, g * 2 + 1].drop i).map fun l : Nat => [I l]) :: L) → A57_2 Q y (pt q 0 0) (I i) h := by
    intro f
    induction f with
    | zero =>
      intro i h hi hs
      obtain rfl : i = 2 := by omega
      exact b57_2 (r_ltI (r_brF (by omega) (h1 _ _ (Hs.pk2 hs))))
    | succ f ih =>
      intro i h hi hs
      refine b57_2 (r_ltI (r_brT (by omega) (b57_3 (r_ld (b := q) (o := 0) hs rfl (r_mulI (by omega) (r_addI (by omega) ?_))))))
      obtain ⟨x, hx, hd⟩ := at_lt (l := [g * 2, g * 2 + 1]) (i := i) (by simp; omega)
      have e0 : i = 0 ∨ i = 1 := by omega
      have ex : x = g * 2 + i := by rcases e0 with rfl | rfl <;> simp at hx <;> omega
      rw [hd, List.map_cons] at hs
      rw [show ((g : Int) * 2 + (i : Int)) = ((x : Nat) : Int) by omega]
      refine (hy _ _ h _ (hs.front (I' ([I (x : Nat)] :: ([g * 2, g * 2 + 1].drop (i + 1)).map fun l : Nat => [I l])))).mono fun v h' hv => ?_
      rcases hv with ⟨rfl, hs'⟩ | ⟨rfl, hs'⟩
      · exact r_not (r_brf (b57_4 (r_addI (by omega) (ih (i + 1) h' (by omega) hs'.to))))
      · exact r_not (r_brt (h2 _ _ (Hs.pk2 hs'.to)))
  exact loop 2 0 h rfl hs
theorem owns_ok {o : Int} (hk : Q (.bool (decide (0 ≤ o ∧ o ≤ 4))) h) : Cl Pr K 56 [I o] h Q := by
  refine c56 (b56_0 (r_geI (r_br (fun h1 => r_leI ?_) (fun h1 => ?_))))
  · rw [show decide (o ≤ 4) = decide (0 ≤ o ∧ o ≤ 4) from decide_eq_decide.2 (by omega)]; exact hk
  · rw [show false = decide (0 ≤ o ∧ o ≤ 4) from (decide_eq_false (by omega)).symm]; exact hk
theorem mayT_ok {w o : Int} (hk : Q (.bool (mayT w o)) h) : Cl Pr K 51 [I w, I o] h Q := by
  unfold mayT at hk
  refine c51 (b51_0 (r_ltI (r_br (fun h1 => ?_) (fun h1 => r_gtI (r_br (fun h2 => ?_) (fun h2 => owns_ok (r_not (r_brn (r_br (fun h3 => ?_) (fun h3 => ?_))))))))))
  · rw [if_neg (by omega)] at hk; exact hk
  · rw [if_neg (by omega)] at hk; exact hk
  · rw [if_pos (by omega)] at hk
    refine r_eqI (r_br (fun h4 => ?_) (fun h4 => r_eqI (r_br (fun h5 => ?_) (fun h5 => r_eqI ?_))))
    · rw [decide_eq_true (.inl h4)] at hk; exact hk
    · rw [decide_eq_true (.inr (.inl h5))] at hk; exact hk
    · rw [show decide (w = 0 ∨ o = w ∨ o = 4) = decide (o = 4) from decide_eq_decide.2 (by omega)] at hk; exact hk
  · rw [if_neg (by omega)] at hk; exact hk
end Go.Proofs.YtincdgimnjofpaaDoor
end
section
namespace Go.Proofs.YtincdgimnjofpaaDoor
open Go Go.Ab Go.Hm Go.At
attribute [local irreducible] thn Br ld1 ldN stV alc alcAt alcS alcSAt resv padd nilV extV part1 partN lenS lenT biI biT biB biP biS biF biE biA unV idxS idxA pickV appV copyV clearV slS slA slT mkS blkOf at1 atN atS convI convS minV maxV Cl OkF OkR EndX endV beginV defersOf setLoop closeMarks
variable {G : Bg} {h : AH} {L L' : List HP} {Q : Value → AH → Prop}
theorem mem_line {C : Cfg} (hC : C.Ok) {mb l : Nat} {mem : Nat → Ln} (h0 : l < C.lines) (hs : Hs G h (memN G C.lines mb C mem :: L)) :
    ∃ (b o cap : Nat) (r w : Int) (b2 o2 cp : Nat) (H : HP), Hs G h (seg mb 0 (C.enc ++ [.slice (some ⟨b, o, none⟩) C.banks.toNat cap]) :: seg b (o + (l % C.banks.toNat) * 3) [I r, I w, .slice (some ⟨b2, o2, none⟩) (cntB C.lines C.banks.toNat (l % C.banks.toNat)) cp] :: seg b2 (o2 + l / C.banks.toNat * 2) (lnE (mem l)) :: H :: L) ∧
      ∀ v h' M, Hs G h' (seg mb 0 (C.enc ++ [.slice (some ⟨b, o, none⟩) C.banks.toNat cap]) :: seg b (o + (l % C.banks.toNat) * 3) [I r, I w, .slice (some ⟨b2, o2, none⟩) (cntB C.lines C.banks.toNat (l % C.banks.toNat)) cp] :: seg b2 (o2 + l / C.banks.toNat * 2) (lnE v) :: H :: M) → Hs G h' (memN G C.lines mb C (updA mem l v) :: M) := by
  have hb := Cfg.bk hC
  obtain ⟨b, o, cap, hs⟩ := mem_open hs
  have hs := (hs.front (big C.banks.toNat fun i => bankR C.lines C.banks.toNat b (o + i * 3) i mem)).bigOut (l % C.banks.toNat) (Nat.mod_lt _ hb.2.1)
  obtain ⟨r, w, a, cp, hs⟩ := bank_open hs
  have hat := cntB_at hb.2.1 h0
  obtain ⟨b2, o2, rfl, H, hs, hback⟩ := Hs.elemF (bkC_len (B := C.banks.toNat) (i := l % C.banks.toNat) (mem := mem)) hat (hs.front (slc 2 101 a cp (cntB C.lines C.banks.toNat (l % C.banks.toNat), (List.range (cntB C.lines C.banks.toNat (l % C.banks.toNat))).flatMap (bkC C.banks.toNat (l % C.banks.toNat) mem))))
  rw [bkC_at hb.2.1] at hs
  refine ⟨b, o, cap, r, w, b2, o2, cp, sp [H, sp (((List.range C.banks.toNat).erase (l % C.banks.toNat)).map fun i => bankR C.lines C.banks.toNat b (o + i * 3) i mem), hole G 3 99 (some ⟨b, o, none⟩) cap C.banks.toNat b o], hs.to, ?_⟩
  intro v h' M hs
  have hs := (hs.front (sp [H, sp (((List.range C.banks.toNat).erase (l % C.banks.toNat)).map fun i => bankR C.lines C.banks.toNat b (o + i * 3) i mem), hole G 3 99 (some ⟨b, o, none⟩) cap C.banks.toNat b o])).un3
  have hs := hback _ _ _ rfl rfl (hs.front2 (seg b2 (o2 + l / C.banks.toNat * 2) (lnE v)) H)
  rw [bkC_upd hb.2.1] at hs
  have hs := bank_close (hs.sg (b := b) (o := o + l % C.banks.toNat * 3) (c := [I r, I w, .slice (some ⟨b2, o2, none⟩) (cntB C.lines C.banks.toNat (l % C.banks.toNat)) cp]) rfl)
  exact mem_close (b := b) (o := o) (cap := cap) ((hs.bigPut (n := C.banks.toNat) (i := l % C.banks.toNat) (fun i => bankR C.lines C.banks.toNat b (o + i * 3) i mem) (fun i => bankR C.lines C.banks.toNat b (o + i * 3) i (updA mem l v)) (Nat.mod_lt _ hb.2.1) (fun i hi hne => by simp only [bankR, bkC_ne hi hne])).to)
theorem word_ok {C : Cfg} (hC : C.Ok) {mb w : Nat} {mem : Nat → Ln} (hl : Ob G 0 limE) (hs : Hs G h (memN G C.lines mb C mem :: L)) (h0 : w < C.lines * 2)
    (hk : ∀ (b2 o2 : Nat) (H : HP) h', Hs G h' (seg b2 o2 (lnE (mem (w / 2))) :: H :: L) → (∀ v h' M, Hs G h' (seg b2 o2 (lnE v) :: H :: M) → Hs G h' (memN G C.lines mb C (updA mem (w / 2) v) :: M)) → Q (.tuple ⟨[pt b2 o2 (0 + w % 2 * 1), I 0]⟩) h') : Cl Pr K 39 [pt mb 0 0, I w] h Q := by
  have hb := Cfg.bk hC
  have h1 : w / 2 < C.lines := by omega
  obtain ⟨b, o, cap, r, w0, b2, o2, cp, H, hs, hback⟩ := mem_line hC h1 hs
  refine c39 (b39_0 (r_ptEq (r_brf (b39_1 (r_nilP (r_padd (r_ldN (b := mb) (o := 0) hs (by decide) (l := C.enc) rfl rfl (lineOf_ok hC hl hs fun h hs => ?_))))))))
  rw [if_pos (by omega)]
  refine r_ext rfl (r_ext rfl (r_ext rfl (r_neI (r_brF (by omega) (b39_2 ?_)))))
  rw [Int.toNat_natCast]
  refine find_ok hC hl hs h1 fun h hs => r_ext rfl (r_ext rfl (r_ext rfl (r_neI (r_brF (by omega) (r_nilP (r_padd (r_ld (b := b) (o := o + (w / 2) % C.banks.toNat * 3) hs rfl ?_)))))))
  have hat := cntB_at hb.2.1 h1
  refine r_idxN hat (r_idxAn (by omega) ?_)
  refine hk _ _ (sp [seg mb 0 (C.enc ++ [.slice (some ⟨b, o, none⟩) C.banks.toNat cap]), seg b (o + (w / 2 % C.banks.toNat) * 3) [I r, I w0, .slice (some ⟨b2, o2, none⟩) (cntB C.lines C.banks.toNat (w / 2 % C.banks.toNat)) cp], H]) _ hs.to fun v h' M hs => ?_
  have hs := (hs.front (sp [seg mb 0 (C.enc ++ [.slice (some ⟨b, o, none⟩) C.banks.toNat cap]), seg b (o + (w / 2 % C.banks.toNat) * 3) [I r, I w0, .slice (some ⟨b2, o2, none⟩) (cntB C.lines C.banks.toNat (w / 2 % C.banks.toNat)) cp], H])).un3
  exact hback v h' M hs.to
theorem ln_at (l : Ln) (w : Nat) : (lnE l)[0 + w % 2 * 1]? = some (I (if w % 2 = 0 then l.1 else l.2)) := by
  have : w % 2 = 0 ∨ w % 2 = 1 := by omega
  rcases this with h | h <;> rw [h] <;> rfl
theorem memGet_ok {C : Cfg} (hC : C.Ok) {mb w : Nat} {mem : Nat → Ln} (hl : Ob G 0 limE) (hs : Hs G h L) [m : Has (memN G C.lines mb C) L mem L'] (h0 : w < C.lines * 2)
    (hk : ∀ h', Hs G h' (memN G C.lines mb C mem :: L') → Q (.tuple ⟨[I (wordG mem w), I 0]⟩) h') : Cl Pr K 36 [pt mb 0 0, I w] h Q := by
  refine c36 (b36_0 (word_ok hC hl (m.of hs) h0 fun b2 o2 H h hs hback => r_ext rfl (r_ext rfl (r_neI (r_brF (by omega) (r_nilP (r_ld (b := b2) (o := o2) hs (ln_at _ w) ?_)))))))
  have hs := hback _ _ _ hs
  rw [updA_self] at hs
  have := hk _ hs
  unfold wordG at this
  split at this
  · rename_i e; rw [if_pos e]; exact this
  · rename_i e; rw [if_neg e]; exact this
theorem memSet_ok {C : Cfg} (hC : C.Ok) {mb w : Nat} {v : Int} {mem : Nat → Ln} (hl : Ob G 0 limE) (hs : Hs G h L) [m : Has (memN G C.lines mb C) L mem L'] (h0 : w < C.lines * 2)
    (hk : ∀ h', Hs G h' (memN G C.lines mb C (wordS mem w v) :: L') → Q (I 0) h') : Cl Pr K 26 [pt mb 0 0, I w, I v] h Q := by
  refine c26 (b26_0 (word_ok hC hl (m.of hs) h0 fun b2 o2 H h hs hback => r_ext rfl (r_ext rfl (r_neI (r_brF (by omega) (b26_1 (r_nilP ?_)))))))
  have e : w % 2 = 0 ∨ w % 2 = 1 := by omega
  rcases e with e | e
  · rw [e]
    refine r_sto (b := b2) (o := o2) hs rfl rfl rfl rfl fun h hs => ?_
    have hs := hback (v, (mem (w / 2)).2) _ _ hs
    have := hk _ (by unfold wordS; rw [if_pos e]; exact hs)
    exact this
  · rw [e]
    refine r_sto (b := b2) (o := o2) hs rfl rfl rfl rfl fun h hs => ?_
    have hs := hback ((mem (w / 2)).1, v) _ _ hs
    have := hk _ (by unfold wordS; rw [if_neg (by omega)]; exact hs)
    exact this
end Go.Proofs.YtincdgimnjofpaaDoor
end
