/- Shots: what is wrong with them, in plain words. -/
import Derived.Test.YtemlagiabnkceaaDoorB4
section
namespace Go.Hm
open Go Go.Ab
structure Cfg where
  cores : Int
  granules : Int
  sets : Int
  ways : Int
  depth : Int
  entries : Int
  banks : Int
  deriving DecidableEq
def Cfg.list (C : Cfg) : List Int := [C.cores, C.granules, C.sets, C.ways, C.depth, C.entries, C.banks]
def Cfg.enc (C : Cfg) : List Value := [I C.cores, I C.granules, I C.sets, I C.ways, I C.depth, I C.entries, I C.banks]
def limL : List Int := [4, 16, 8, 4, 16, 8, 4]
def limE : List Value := [I 4, I 16, I 8, I 4, I 16, I 8, I 4]
def Cfg.ckF (C : Cfg) : Nat → Nat → Int
  | 0, _ => 0
  | f + 1, i => if C.list.getD i 0 < 1 ∨ limL.getD i 0 < C.list.getD i 0 then 10 else C.ckF f (i + 1)
def Cfg.Ok (C : Cfg) : Prop := (1 ≤ C.cores ∧ C.cores ≤ 4) ∧ (1 ≤ C.granules ∧ C.granules ≤ 16) ∧ (1 ≤ C.sets ∧ C.sets ≤ 8) ∧ (1 ≤ C.ways ∧ C.ways ≤ 4) ∧ (1 ≤ C.depth ∧ C.depth ≤ 16) ∧ (1 ≤ C.entries ∧ C.entries ≤ 8) ∧ (1 ≤ C.banks ∧ C.banks ≤ 4)
instance (C : Cfg) : Decidable C.Ok := by unfold Cfg.Ok; infer_instance
theorem Cfg.ck_eq (C : Cfg) : C.ckF 7 0 = if C.Ok then 0 else 10 := by
  simp only [Cfg.ckF, Cfg.list, limL, List.getD_cons_zero, List.getD_cons_succ]
  by_cases h : C.Ok
  · rw [if_pos h]
    unfold Cfg.Ok at h
    repeat rw [if_neg (by omega)]
  · rw [if_neg h]
    unfold Cfg.Ok at h
    repeat' split
    all_goals first | rfl | (exfalso; omega)
def Cfg.lines (C : Cfg) : Nat := (C.granules * 2).toNat
theorem Cfg.lines_eq {C : Cfg} (h : C.Ok) : (C.lines : Int) = C.granules * 2 ∧ 2 ≤ C.lines ∧ C.lines ≤ 32 := by
  unfold Cfg.Ok at h; unfold Cfg.lines; omega
end Go.Hm
end
section
namespace Go.Hm
open Go Go.Ab
abbrev Ln := Int × Int
def lnE (l : Ln) : List Value := [I l.1, I l.2]
/-- how many of the first 'n' lines are in a bank -/
def cntB (n B i : Nat) : Nat := (n + B - 1 - i) / B
theorem cntB_zero {B i : Nat} (hi : i < B) : cntB 0 B i = 0 := Nat.div_eq_of_lt (by omega)
theorem cntB_succ {n B i : Nat} (hi : i < B) : cntB (n + 1) B i = if i = n % B then cntB n B i + 1 else cntB n B i := by
  have hd := Nat.div_add_mod n B
  have hm := Nat.mod_lt n (show 0 < B by omega)
  unfold cntB
  generalize n / B = q at hd
  generalize n % B = r at hd hm ⊢
  subst hd
  split
  · rename_i h; subst h
    rw [show B * q + i + 1 + B - 1 - i = B * q + B by omega, show B * q + i + B - 1 - i = B * q + (B - 1) by omega]
    rw [Nat.mul_add_div (by omega), Nat.mul_add_div (by omega), Nat.div_self (by omega), Nat.div_eq_of_lt (show B - 1 < B by omega)]
  · rename_i h
    rcases Nat.lt_or_ge i r with h1 | h1
    · rw [show B * q + r + 1 + B - 1 - i = B * q + (B + (r - i)) by omega, show B * q + r + B - 1 - i = B * q + (B + (r - i - 1)) by omega]
      rw [Nat.mul_add_div (by omega), Nat.mul_add_div (by omega), Nat.add_div_left _ (by omega), Nat.add_div_left _ (by omega), Nat.div_eq_of_lt (show r - i < B by omega), Nat.div_eq_of_lt (show r - i - 1 < B by omega)]
    · rw [show B * q + r + 1 + B - 1 - i = B * q + (B + r - i) by omega, show B * q + r + B - 1 - i = B * q + (B + r - i - 1) by omega]
      rw [Nat.mul_add_div (by omega), Nat.mul_add_div (by omega), Nat.div_eq_of_lt (show B + r - i < B by omega), Nat.div_eq_of_lt (show B + r - i - 1 < B by omega)]
theorem cntB_at {n B l : Nat} (hB : 0 < B) (hl : l < n) : l / B < cntB n B (l % B) := by
  unfold cntB
  have hd := Nat.div_add_mod l B
  have hm := Nat.mod_lt l hB
  rw [Nat.lt_div_iff_mul_lt hB]
  rw [Nat.mul_comm]
  generalize B * (l / B) = q at hd ⊢
  omega
theorem bank_no {B l k i : Nat} (hi : i < B) : k * B + i = l ↔ k = l / B ∧ i = l % B := by
  constructor
  · intro h; subst h
    rw [Nat.mul_comm, Nat.mul_add_div (by omega), Nat.mul_add_mod, Nat.div_eq_of_lt hi, Nat.mod_eq_of_lt hi]; simp
  · rintro ⟨rfl, rfl⟩
    have := Nat.div_add_mod l B
    rw [Nat.mul_comm]; exact this
theorem Cfg.bk {C : Cfg} (h : C.Ok) : (C.banks.toNat : Int) = C.banks ∧ 0 < C.banks.toNat ∧ C.banks.toNat ≤ 4 := by unfold Cfg.Ok at h; omega
/-- the lines of a bank -/
def bkC (B i : Nat) (mem : Nat → Ln) : Nat → List Value := fun k => lnE (mem (k * B + i))
theorem bkC_len {B i : Nat} {mem : Nat → Ln} (k : Nat) : (bkC B i mem k).length = 2 := rfl
theorem updA_self {α : Type} {f : Nat → α} {i : Nat} : updA f i (f i) = f := by
  funext j; unfold updA; split
  · rename_i h; rw [h]
  · rfl
theorem bkC_at {B l : Nat} {mem : Nat → Ln} (hB : 0 < B) : bkC B (l % B) mem (l / B) = lnE (mem l) := by
  unfold bkC; rw [(bank_no (Nat.mod_lt l hB)).2 ⟨rfl, rfl⟩]
theorem bkC_upd {B l : Nat} {mem : Nat → Ln} {v : Ln} (hB : 0 < B) : updA (bkC B (l % B) mem) (l / B) (lnE v) = bkC B (l % B) (updA mem l v) := by
  funext k
  unfold bkC updA
  have := (bank_no (l := l) (k := k) (Nat.mod_lt l hB))
  by_cases h : k = l / B
  · rw [if_pos h, if_pos (this.2 ⟨h, rfl⟩)]
  · rw [if_neg h, if_neg (fun e => h (this.1 e).1)]
theorem bkC_ne {B l i : Nat} {mem : Nat → Ln} {v : Ln} (hi : i < B) (h : i ≠ l % B) : bkC B i (updA mem l v) = bkC B i mem := by
  funext k
  unfold bkC updA
  rw [if_neg (fun e => h ((bank_no hi).1 e).2)]
theorem cntB_le {n B i : Nat} (hB : 0 < B) : cntB n B i ≤ n := by
  unfold cntB
  refine Nat.le_of_lt_succ (Nat.div_lt_of_lt_mul ?_)
  rw [Nat.mul_succ]
  have : n ≤ B * n := Nat.le_mul_of_pos_left _ hB
  omega
def mem0 : Nat → Ln := fun _ => (0, 0)
end Go.Hm
end
section
namespace Go.Hm
open Go Go.Ab

structure Note where
  kind : Int
  core : Int
  line : Int
  world : Int
  state : Int
  d0 : Int
  d1 : Int
  dirty : Bool
  no : Int
  deriving DecidableEq
def Note.enc (n : Note) : List Value := [I n.kind, I n.core, I n.line, I n.world, I n.state, I n.d0, I n.d1, .bool n.dirty, I n.no]
def Note.zero : Note := ⟨0, 0, 0, 0, 0, 0, 0, false, 0⟩
def encNs (l : List Note) : List Value := l.flatMap Note.enc
theorem encNs_len (l : List Note) : (encNs l).length = l.length * 9 := by
  induction l with
  | nil => rfl
  | cons n l ih => simp only [encNs, List.flatMap_cons, List.length_append] at ih ⊢; rw [ih]; simp [Note.enc]; omega
theorem encNs_cells (l : List Note) : (encNs l).all cellB = true := by
  induction l with
  | nil => rfl
  | cons n l ih => simp only [encNs, List.flatMap_cons, List.all_append] at ih ⊢; rw [ih]; rfl
theorem encNs_append (l m : List Note) : encNs (l ++ m) = encNs l ++ encNs m := by simp [encNs]
@[simp] theorem encNs_cons (n : Note) (l : List Note) : encNs (n :: l) = n.enc ++ encNs l := rfl
@[simp] theorem encNs_nil : encNs [] = [] := rfl
structure Row where
  owner : Int
  sh : Nat → Bool
  waits : List Note
  busy : Bool
  served : Note
  world : Int
  asked : Nat → Bool
  granted : Bool
  told : Bool
  d0 : Int
  d1 : Int
def Row.enc (r : Row) (a : Option Addr) (c : Nat) : List Value :=
  [I r.owner, .bool (r.sh 0), .bool (r.sh 1), .bool (r.sh 2), .bool (r.sh 3), .slice a r.waits.length c, .bool r.busy, I r.served.kind, I r.served.core, I r.served.line, I r.served.world, I r.served.state, I r.served.d0, I r.served.d1, .bool r.served.dirty, I r.served.no,
   I r.world, .bool (r.asked 0), .bool (r.asked 1), .bool (r.asked 2), .bool (r.asked 3), .bool r.granted, .bool r.told, I r.d0, I r.d1]
def Row.encA (r : Row) : List Value := [I r.owner, .bool (r.sh 0), .bool (r.sh 1), .bool (r.sh 2), .bool (r.sh 3)]
def Row.encB (r : Row) (a : Option Addr) (c : Nat) : List Value :=
  [.slice a r.waits.length c, .bool r.busy, I r.served.kind, I r.served.core, I r.served.line, I r.served.world, I r.served.state, I r.served.d0, I r.served.d1, .bool r.served.dirty, I r.served.no,
   I r.world, .bool (r.asked 0), .bool (r.asked 1), .bool (r.asked 2), .bool (r.asked 3), .bool r.granted, .bool r.told, I r.d0, I r.d1]
theorem Row.enc_split (r : Row) (a : Option Addr) (c : Nat) : r.enc a c = r.encA ++ r.encB a c := rfl
def updB (f : Nat → Bool) (i : Int) (v : Bool) : Nat → Bool := fun j => if (j : Int) = i then v else f j
def Row.free (r : Row) : Row := { r with busy := false, granted := false, told := false, served := Note.zero, world := 0, d0 := 0, d1 := 0 }
def Row.leave (r : Row) (core : Int) : Row := { r with sh := updB r.sh core false, owner := if r.owner = core then -1 else r.owner }
/-- is a core a holder? -/
def Row.holds (r : Row) (but : Int) (i : Nat) : Bool := decide ((i : Int) ≠ but) && (r.sh i || decide ((i : Int) = r.owner))
theorem holds1 {r : Row} {x : Int} {i : Nat} (h : (i : Int) ≠ x) (h1 : r.sh i = true) : r.holds x i = true := by simp [Row.holds, h, h1]
theorem holds2 {r : Row} {x : Int} {i : Nat} (h : (i : Int) ≠ x) (h1 : (i : Int) = r.owner) : r.holds x i = true := by
  unfold Row.holds; rw [decide_eq_true h, decide_eq_true h1]; simp
theorem holdsN1 {r : Row} {x : Int} {i : Nat} (h : (i : Int) = x) : r.holds x i = false := by
  unfold Row.holds; rw [decide_eq_false (by simpa using h)]; rfl
theorem holdsN2 {r : Row} {x : Int} {i : Nat} (h : r.sh i = false) (h1 : (i : Int) ≠ r.owner) : r.holds x i = false := by
  unfold Row.holds; rw [h, decide_eq_false h1]; simp
def Row.firstF (r : Row) (but : Int) : Nat → Nat → Int
  | 0, _ => -1
  | f + 1, i => if r.holds but i then i else r.firstF but f (i + 1)
def Row.first (r : Row) (but : Int) : Int := r.firstF but 4 0
def Row.holdersF (r : Row) (but : Int) : Nat → Nat → List Nat
  | 0, _ => []
  | f + 1, i => if r.holds but i then i :: r.holdersF but f (i + 1) else r.holdersF but f (i + 1)
def Row.holders (r : Row) (but : Int) : List Nat := r.holdersF but 4 0
def Row.askAll (r : Row) (l : List Nat) : Row := { r with asked := fun j => r.asked j || l.contains j }
def probes (line state : Int) (l : List Nat) : List Note := l.map fun (i : Nat) => { Note.zero with kind := 11, core := (i : Int), line := line, state := state }
/-- nobody's Reply is waited for -/
def Row.quiet (r : Row) : Bool := !(r.asked 0 || r.asked 1 || r.asked 2 || r.asked 3)
/-- a line: its row, and what memory has of it -/
abbrev Lin := Row × Ln
def Row.dat (r : Row) (m : Ln) : Ln := if r.told then (r.d0, r.d1) else m
def Row.grantN (r : Row) (line st : Int) (d : Ln) : Note := ⟨8, r.served.core, line, r.world, st, d.1, d.2, false, 0⟩
def Row.grant (r : Row) (line : Int) (d : Ln) : Row × List Note :=
  if r.served.kind = 2 then ({ r with owner := r.served.core, sh := fun _ => false, granted := true }, [r.grantN line 4 d])
  else if r.first r.served.core = -1 then ({ r with owner := r.served.core, sh := updB r.sh r.served.core false, granted := true }, [r.grantN line 2 d])
  else ({ r with sh := updB r.sh r.served.core true, granted := true }, [r.grantN line 1 d])
def valid (s : Int) : Bool := decide (0 ≤ s ∧ s < 5) && decide (s ≠ 0)
def Row.heard1 (r : Row) (n : Note) : Row := { r with asked := updB r.asked n.core false }
def Row.heard2 (r : Row) (n : Note) : Row := { r with owner := -1, sh := updB r.sh n.core (valid n.state) }
def Row.heard3 (r : Row) (n : Note) : Row := { r with told := true, d0 := n.d0, d1 := n.d1 }
/-- what a Reply turns, ahead of what comes of it -/
def Row.heard (r : Row) (n : Note) : Row :=
  if r.served.kind ≠ 1 then (r.heard1 n).leave n.core
  else if n.state ≠ 3 then (if n.dirty then ((r.heard1 n).heard2 n).heard3 n else (r.heard1 n).heard2 n)
  else if n.dirty then (r.heard1 n).heard3 n else r.heard1 n
def Row.heardM (r : Row) (m : Ln) (n : Note) : Ln := if r.served.kind ≠ 1 ∧ n.dirty = true then (n.d0, n.d1) else m
/-- what comes of it -/
def Row.rest (r : Row) (line : Int) (m : Ln) : Row × List Note :=
  if r.quiet then (if r.served.kind = 0 then (r.free, []) else r.grant line (r.dat m)) else (r, [])
def Lin.reply (x : Lin) (line : Int) (n : Note) : Lin × List Note :=
  let m := x.1.heardM x.2 n
  let g := (x.1.heard n).rest line m
  ((g.1, m), g.2)
def Row.serve (r : Row) (n : Note) (world : Int) : Row := { r with busy := true, served := n, world := world }
def Row.getM (r : Row) (line : Int) (m : Ln) : Row × List Note :=
  if r.first r.served.core ≠ -1 then (r.askAll (r.holders r.served.core), probes line 0 (r.holders r.served.core)) else r.grant line (r.dat m)
def Row.getS (r : Row) (line : Int) (m : Ln) : Row × List Note :=
  if r.owner ≠ -1 then (r.askAll [r.owner.toNat], probes line 1 [r.owner.toNat]) else r.grant line (r.dat m)
def Row.unown (r : Row) : Row := if r.owner = r.served.core then { r with owner := -1 } else r
def Row.get (r : Row) (line : Int) (m : Ln) (n : Note) (world : Int) : Row × List Note :=
  let r := r.serve n world
  if n.kind = 2 then r.getM line m else r.unown.getS line m
def Row.wait (r : Row) (n : Note) : Row := { r with waits := r.waits ++ [n] }
def Row.next (r : Row) (w : List Note) : Row := { r with waits := w }
def Row.serve0 (r : Row) (n : Note) : Row := { r with busy := true, served := n }
def Lin.take (x : Lin) (line : Int) (n : Note) : Lin × List Note × Int :=
  if n.kind = 4 then (if x.1.granted = false ∨ x.1.served.core ≠ n.core then (x, [], 16) else ((x.1.free, x.2), [], 0))
  else if n.kind = 5 then (if x.1.asked n.core.toNat = false then (x, [], 16) else let g := Lin.reply x line n; (g.1, g.2, 0))
  else ((x.1.wait n, x.2), [], 0)
def sweepN (line : Int) : Note := { Note.zero with line := line }
def Lin.sweep (x : Lin) (line : Int) : Lin := (x.1.wait (sweepN line), x.2)
def ackN (kind core line : Int) : Note := { Note.zero with kind := kind, core := core, line := line }
/-- the first request is served; 'j': what the judge tells of a world -/
def Row.begun (r : Row) (line : Int) (m : Ln) (n : Note) (j : Int → Int × Bool) : Lin × List Note :=
  if n.kind = 3 then ((r.leave n.core, if r.owner = n.core ∧ n.dirty = true then (n.d0, n.d1) else m), [ackN 10 n.core line])
  else if n.kind = 1 ∨ n.kind = 2 then (if (j n.world).2 = true then let g := r.get line m n (j n.world).1; ((g.1, m), g.2) else ((r, m), [ackN 9 n.core line]))
  else if r.first (-1) = -1 then ((r, m), [])
  else (((r.serve0 n).askAll (r.holders (-1)), m), probes line 0 (r.holders (-1)))
def Lin.begin (x : Lin) (line : Int) (j : Int → Int × Bool) : Lin × List Note × Int :=
  if x.1.busy = true then (x, [], 16)
  else match x.1.waits with
    | [] => (x, [], 12)
    | n :: w => let g := Row.begun (x.1.next w) line x.2 n j; (g.1, g.2, 0)
abbrev Hom := Nat → Lin
def row0 : Row := ⟨-1, fun _ => false, [], false, Note.zero, 0, fun _ => false, false, false, 0, 0⟩
def hom0 : Hom := fun _ => (row0, (0, 0))
theorem holdersF_lt {r : Row} {x : Int} : ∀ (f i : Nat), i + f = 4 → (∀ c ∈ r.holdersF x f i, c < 4) ∧ (r.holdersF x f i).length ≤ f := by
  intro f
  induction f with
  | zero => intro i hi; simp [Row.holdersF]
  | succ f ih =>
    intro i hi
    obtain ⟨h1, h2⟩ := ih (i + 1) (by omega)
    unfold Row.holdersF
    split
    · refine ⟨fun c hc => ?_, by simp; omega⟩
      rcases List.mem_cons.1 hc with rfl | hc
      · omega
      · exact h1 c hc
    · exact ⟨h1, by omega⟩
theorem holders_lt {r : Row} {x : Int} : ∀ c ∈ r.holders x, c < 4 := (holdersF_lt 4 0 rfl).1
theorem holders_len {r : Row} {x : Int} : (r.holders x).length ≤ 4 := (holdersF_lt 4 0 rfl).2
/-- is there such a line? -/
def Cfg.has (C : Cfg) (l : Int) : Prop := 0 ≤ l ∧ l < C.lines
instance (C : Cfg) (l : Int) : Decidable (C.has l) := by unfold Cfg.has; infer_instance
def takes (k : Int) : Prop := k = 1 ∨ k = 2 ∨ k = 3 ∨ k = 4 ∨ k = 5
instance (k : Int) : Decidable (takes k) := by unfold takes; infer_instance
def Hom.at (H : Hom) (l : Int) : Lin := H l.toNat
def homTake (C : Cfg) (H : Hom) (n : Note) : Hom × List Note × Int :=
  if ¬ takes n.kind then (H, [], 15)
  else if (0 ≤ n.core ∧ n.core < C.cores) ∧ C.has n.line then (updA H n.line.toNat (Lin.take (H n.line.toNat) n.line n).1, (Lin.take (H n.line.toNat) n.line n).2)
  else (H, [], 10)
def homSweep (C : Cfg) (H : Hom) (l : Int) : Hom × Int := if C.has l then (updA H l.toNat (Lin.sweep (H l.toNat) l), 0) else (H, 10)
def homBegin (C : Cfg) (H : Hom) (l : Int) (j : Int → Int × Bool) : Hom × List Note × Int :=
  if C.has l then (updA H l.toNat (Lin.begin (H l.toNat) l j).1, (Lin.begin (H l.toNat) l j).2) else (H, [], 10)
structure Row.Inv (r : Row) : Prop where
  core : 0 ≤ r.served.core ∧ r.served.core < 4
  owner : -1 ≤ r.owner ∧ r.owner < 4
  waits : ∀ n ∈ r.waits, 0 ≤ n.core ∧ n.core < 4
def HInv (C : Cfg) (H : Hom) (N : Nat) : Prop := ∀ l, l < C.lines → (H l).1.Inv ∧ (H l).1.waits.length ≤ N
def homBusy (C : Cfg) (H : Hom) (l : Int) : Bool := decide (C.has l) && (H l.toNat).1.busy
def homWaits (C : Cfg) (H : Hom) (l : Int) : Int := if C.has l then ((H l.toNat).1.waits.length : Int) else 0
def Row.sharersF (r : Row) : Nat → Nat → List Nat
  | 0, _ => []
  | f + 1, i => if r.sh i then i :: r.sharersF f (i + 1) else r.sharersF f (i + 1)
def Row.sharers (r : Row) : List Nat := r.sharersF 4 0
def homWho (C : Cfg) (H : Hom) (l : Int) : Int × List Nat × Int := if C.has l then ((H l.toNat).1.owner, (H l.toNat).1.sharers, 0) else (0, [], 10)
theorem sharersF_len {r : Row} : ∀ (f i : Nat), (r.sharersF f i).length ≤ f := by
  intro f
  induction f with
  | zero => intro i; simp [Row.sharersF]
  | succ f ih => intro i; have := ih (i + 1); unfold Row.sharersF; split <;> simp <;> omega
/-- a home in the making: of the first rows the owner is told -/
def homM (n : Nat) : Hom := fun i => if i < n then (row0, (0, 0)) else ({ row0 with owner := 0 }, (0, 0))
theorem homM_succ {n : Nat} : updA (homM n) n (row0, (0, 0)) = homM (n + 1) := by
  funext i
  unfold updA homM
  by_cases h : i = n
  · rw [if_pos h, if_pos (by omega)]
  · rw [if_neg h]
    by_cases h2 : i < n
    · rw [if_pos h2, if_pos (by omega)]
    · rw [if_neg h2, if_neg (by omega)]
theorem encNs_at : ∀ (l : List Note) (i : Nat) (n : Note), l[i]? = some n → ((encNs l).drop (i * 9)).take 9 = n.enc
  | [], i, n, h => by simp at h
  | m :: l, 0, n, h => by simp at h; subst h; simp [Note.enc]
  | m :: l, i + 1, n, h => by
    have ih := encNs_at l i n (by simpa using h)
    have e : (i + 1) * 9 = m.enc.length + i * 9 := by show (i + 1) * 9 = 9 + i * 9; omega
    rw [encNs_cons, e, List.drop_append, List.drop_eq_nil_of_le (show m.enc.length ≤ m.enc.length + i * 9 by omega), List.nil_append, show m.enc.length + i * 9 - m.enc.length = i * 9 by omega]
    exact ih
/-- a note with which a request begins to be served -/
def Note.fits (n r : Note) (len : Nat) : Prop :=
  n.line = r.line ∧ n.no = 0 ∧ ((n.kind = 8 ∧ n.core = r.core ∧ len = 1 ∧ (r.kind = 1 ∨ r.kind = 2)) ∨ (n.kind = 9 ∧ n.world = 0 ∧ n.core = r.core ∧ len = 1 ∧ (r.kind = 1 ∨ r.kind = 2)) ∨
    (n.kind = 10 ∧ n.world = 0 ∧ n.core = r.core ∧ len = 1 ∧ r.kind = 3) ∨ (n.kind = 11 ∧ n.world = 0 ∧ n.core ≠ r.core ∧ (r.kind = 1 ∨ r.kind = 2 ∨ (r.kind = 0 ∧ n.state = 0))))
end Go.Hm
end
section
namespace Go.Ct
open Go Go.Ab Go.Hm
/-! states -/
def loadS (s : Int) : Bool := decide (1 ≤ s ∧ s ≤ 4)
def storeS (s : Int) : Bool := decide (s = 2 ∨ s = 4)
def dirtyS (s : Int) : Bool := decide (s = 3 ∨ s = 4)
def ownerS (s : Int) : Bool := decide (2 ≤ s ∧ s ≤ 4)
def isS (s : Int) : Bool := decide (0 ≤ s ∧ s < 5)
def sharedS (s : Int) : Int := if s = 2 then 1 else if s = 4 then 3 else s
def allowsS (s : Int) (w : Bool) : Bool := if w then storeS s else loadS s
/-! what a cache has of a line -/
structure Cpy where
  st : Int
  w : Int
  d : Ln
  deriving DecidableEq
def Cpy.enc (x : Cpy) : List Value := [I x.st, I x.w, I x.d.1, I x.d.2]
def Cpy.zero : Cpy := ⟨0, 0, (0, 0)⟩
abbrev Th := Int × Cpy
def thE (t : Th) : List Value := I t.1 :: t.2.enc
def encTs (l : List Th) : List Value := l.flatMap thE
theorem encTs_len (l : List Th) : (encTs l).length = l.length * 5 := by
  induction l with
  | nil => rfl
  | cons a t ih => simp only [encTs, List.flatMap_cons, List.length_append] at ih ⊢; rw [ih]; simp [thE, Cpy.enc]; omega
theorem encTs_cell (l : List Th) : (encTs l).all cellB = true := by
  induction l with
  | nil => rfl
  | cons a t ih => simp only [encTs, List.flatMap_cons, List.all_append, Bool.and_eq_true] at ih ⊢; exact ⟨rfl, ih⟩
theorem encTs_app (l m : List Th) : encTs (l ++ m) = encTs l ++ encTs m := by simp [encTs]
theorem encTs_take (l : List Th) (i : Nat) : (encTs l).take (i * 5) = encTs (l.take i) := by
  induction l generalizing i with
  | nil => simp [encTs]
  | cons a t ih =>
    cases i with
    | zero => simp [encTs]
    | succ i =>
      have : (i + 1) * 5 = 5 + i * 5 := by omega
      simp only [encTs, List.flatMap_cons, List.take_succ_cons] at ih ⊢
      rw [this, List.take_append, List.take_of_length_le (by simp [thE, Cpy.enc])]
      have e5 : (thE a).length = 5 := rfl
      rw [e5, show 5 + i * 5 - 5 = i * 5 by omega, ih]
theorem encTs_drop (l : List Th) (i : Nat) : (encTs l).drop (i * 5) = encTs (l.drop i) := by
  induction l generalizing i with
  | nil => simp [encTs]
  | cons a t ih =>
    cases i with
    | zero => simp [encTs]
    | succ i =>
      have : (i + 1) * 5 = 5 + i * 5 := by omega
      simp only [encTs, List.flatMap_cons, List.drop_succ_cons] at ih ⊢
      have e5 : (thE a).length = 5 := rfl
      rw [this, List.drop_append, List.drop_of_length_le (by rw [e5]; omega), e5, show 5 + i * 5 - 5 = i * 5 by omega, ih, List.nil_append]
theorem encTs_at {l : List Th} {i : Nat} {t : Th} (h : l[i]? = some t) : ((encTs l).drop (i * 5)).take 5 = thE t := by
  rw [encTs_drop]
  have hi := (List.getElem?_eq_some_iff.1 h)
  rw [List.drop_eq_getElem_cons hi.1, hi.2]
  simp only [encTs, List.flatMap_cons]
  exact List.take_left' rfl
/-! where a number is -/
def ix (no : Int) : List Th → Option Nat
  | [] => none
  | t :: l => if t.1 = no then some 0 else (ix no l).map (· + 1)
def ixI (no : Int) (l : List Th) : Int := match ix no l with | some i => i | none => -1
def get (no : Int) (l : List Th) : Option Cpy := (l.find? fun t => decide (t.1 = no)).map (·.2)
def rem (no : Int) : List Th → List Th
  | [] => []
  | t :: l => if t.1 = no then l else t :: rem no l
theorem ix_some {no : Int} {l : List Th} {i : Nat} (h : ix no l = some i) : ∃ x, l[i]? = some (no, x) ∧ get no l = some x ∧ rem no l = l.take i ++ l.drop (i + 1) ∧ i < l.length := by
  induction l generalizing i with
  | nil => cases h
  | cons t l ih =>
    simp only [ix] at h
    by_cases hc : t.1 = no
    · rw [if_pos hc] at h
      cases h
      exact ⟨t.2, by simp [← hc], by simp [get, hc], by simp [rem, hc], by simp⟩
    · rw [if_neg hc] at h
      cases hx : ix no l with
      | none => rw [hx] at h; cases h
      | some j =>
        rw [hx] at h
        cases h
        obtain ⟨x, h1, h2, h3, h4⟩ := ih hx
        refine ⟨x, by simpa using h1, ?_, ?_, by simp; omega⟩
        · simp only [get, List.find?_cons, decide_eq_false hc] at h2 ⊢; exact h2
        · simp [rem, hc, h3]
theorem ix_none {no : Int} {l : List Th} (h : ix no l = none) : get no l = none ∧ rem no l = l := by
  induction l with
  | nil => exact ⟨rfl, rfl⟩
  | cons t l ih =>
    simp only [ix] at h
    by_cases hc : t.1 = no
    · rw [if_pos hc] at h; cases h
    · rw [if_neg hc] at h
      obtain ⟨h1, h2⟩ := ih (by simpa using h)
      refine ⟨?_, by simp [rem, hc, h2]⟩
      simp only [get, List.find?_cons, decide_eq_false hc] at h1 ⊢; exact h1
theorem rem_len {no : Int} {l : List Th} : (rem no l).length = if (get no l).isSome then l.length - 1 else l.length := by
  cases h : ix no l with
  | none => obtain ⟨h1, h2⟩ := ix_none h; rw [h1, h2]; rfl
  | some i =>
    obtain ⟨x, h1, h2, h3, h4⟩ := ix_some h
    rw [h2, h3]; simp; omega
/-! a cache -/
structure Cac where
  S : Nat → List Th
  al : Int
  aw : Bool
  ais : Bool
  gl : Int
  gc : Cpy
  gis : Bool
def Cac.new : Cac := ⟨fun _ => [], 0, false, false, 0, Cpy.zero, false⟩
def Cac.tail (c : Cac) : List Value := [I c.al, .bool c.aw, .bool c.ais, I c.gl] ++ c.gc.enc ++ [.bool c.gis]
variable (n : Nat) (ways : Nat) (lines : Int) (core : Int)
/-- a line's set -/
def setOf (l : Int) : Nat := (l % (n : Int)).toNat
def Cac.peek (c : Cac) (l : Int) : Option Cpy := if l < 0 then none else get l (c.S (setOf n l))
def Cac.may (c : Cac) (l ow : Int) (w : Bool) : Bool := match c.peek n l with
  | some x => decide (x.w = ow) && allowsS x.st w
  | none => false
def Cac.set (c : Cac) (l : Int) (s : List Th) : Cac := { c with S := updA c.S (setOf n l) s }
def Cac.drop (c : Cac) (l : Int) : Cac := c.set n l (rem l (c.S (setOf n l)))
/-- a copy is put; false: there is no room -/
def Cac.putE (c : Cac) (l : Int) (x : Cpy) : Int := if (rem l (c.S (setOf n l))).length ≥ ways then 11 else 0
def Cac.put (c : Cac) (l : Int) (x : Cpy) : Cac := c.set n l (if (rem l (c.S (setOf n l))).length ≥ ways then rem l (c.S (setOf n l)) else rem l (c.S (setOf n l)) ++ [(l, x)])
end Go.Ct
end
section
namespace Go.Sf
open Go Go.Ab Go.Hm Go.Ct
structure SCopy where
  core : Int
  line : Int
  state : Int
  world : Int
  d0 : Int
  d1 : Int
  deriving DecidableEq
def SCopy.enc (x : SCopy) : List Value := [I x.core, I x.line, I x.state, I x.world, I x.d0, I x.d1]
structure SKn where
  core : Int
  granule : Int
  owner : Int
  deriving DecidableEq
def SKn.enc (x : SKn) : List Value := [I x.core, I x.granule, I x.owner]
structure SEn where
  owner : Int
  locked : Bool
  deriving DecidableEq
def SEn.enc (x : SEn) : List Value := [I x.owner, .bool x.locked]
abbrev Ln2 := Int × Int
def lnE (x : Ln2) : List Value := [I x.1, I x.2]
structure Shot where
  copies : List SCopy
  known : List SKn
  table : List SEn
  notes : List Note
  memory : List Ln2
def inB (n many : Int) : Bool := decide (0 ≤ n ∧ n < many)
def Shot.okB (C : Cfg) (S : Shot) : Bool :=
  (S.copies.all fun o => inB o.core C.cores && inB o.line C.lines) && (S.known.all fun k => inB k.core C.cores && inB k.granule C.granules) && (S.notes.all fun n => inB n.core C.cores && inB n.line C.lines)
def Shot.may (C : Cfg) (S : Shot) : Int :=
  if (S.table.length : Int) ≠ C.granules then 1 else if (S.memory.length : Int) ≠ C.lines then 1 else if S.okB C then 0 else 1
def fitS (l : List Int) : Bool := l.all isS && decide (l.countP ownerS ≤ 1) && (decide (l.countP storeS = 0) || decide (l.countP loadS = 1))
def Shot.on (S : Shot) (line : Int) : List SCopy := S.copies.filter fun o => decide (o.line = line)
def Shot.gr (S : Shot) (line : Int) : List Note := S.notes.filter fun n => decide (n.kind = 8) && decide (n.line = line)
def Shot.entry (S : Shot) (g : Int) : SEn := S.table.getD g.toNat ⟨0, false⟩
def diff (l : List Ln2) : Bool := match l with
  | [] => false
  | x :: l => l.any fun y => decide (y ≠ x)
def tagW (x : SEn) (w : Int) : Bool := !x.locked && decide (w ≠ x.owner)
def Shot.wrong (S : Shot) (what at' : Int) : Bool :=
  if what = 1 then !fitS ((S.on at').map (·.state))
  else if what = 2 then diff ((S.on at').map fun o => (o.d0, o.d1))
  else if what = 3 then (S.on at').any fun o => tagW (S.entry (at' / 2)) o.world
  else if what = 4 then S.known.any fun k => !(S.entry at').locked && (decide (k.granule = at') && decide (k.owner ≠ (S.entry at').owner))
  else if what = 5 then (S.gr at').any fun n => tagW (S.entry (at' / 2)) n.world
  else false
def places (C : Cfg) (what : Int) : Nat := if what = 4 then C.granules.toNat else C.lines
def Shot.wrongsA (S : Shot) (what : Int) : Nat → Nat → List (Int × Int)
  | 0, _ => []
  | f + 1, i => if S.wrong what i then (what, (i : Int)) :: S.wrongsA what f (i + 1) else S.wrongsA what f (i + 1)
def Shot.wrongsW (C : Cfg) (S : Shot) : Nat → Nat → List (Int × Int)
  | 0, _ => []
  | f + 1, w => S.wrongsA (w : Int) (places C w) 0 ++ S.wrongsW C f (w + 1)
def Shot.wrongs (C : Cfg) (S : Shot) : List (Int × Int) := S.wrongsW C 5 1
def Shot.check (C : Cfg) (S : Shot) : (Int × Int) × Int := if S.may C = 0 then ((S.wrongs C).headD (0, 0), 0) else ((0, 0), S.may C)
/-! the order does not count -/
theorem diff_iff (l : List Ln2) : diff l = true ↔ ∃ x ∈ l, ∃ y ∈ l, x ≠ y := by
  cases l with
  | nil => simp [diff]
  | cons a l =>
    simp only [diff, List.any_eq_true, decide_eq_true_eq]
    constructor
    · rintro ⟨y, hy, hn⟩
      exact ⟨y, List.mem_cons_of_mem _ hy, a, List.mem_cons_self, hn⟩
    · rintro ⟨x, hx, y, hy, hn⟩
      by_cases hxa : x = a
      · subst hxa
        rcases List.mem_cons.1 hy with rfl | hy
        · exact absurd rfl hn
        · exact ⟨y, hy, fun e => hn e.symm⟩
      · rcases List.mem_cons.1 hx with rfl | hx
        · exact absurd rfl hxa
        · exact ⟨x, hx, hxa⟩
theorem perm_all {α : Type} {l m : List α} (p : l.Perm m) (f : α → Bool) : l.all f = m.all f := by
  rw [Bool.eq_iff_iff, List.all_eq_true, List.all_eq_true]
  exact ⟨fun h x hx => h x (p.mem_iff.2 hx), fun h x hx => h x (p.mem_iff.1 hx)⟩
theorem perm_any {α : Type} {l m : List α} (p : l.Perm m) (f : α → Bool) : l.any f = m.any f := by
  rw [Bool.eq_iff_iff, List.any_eq_true, List.any_eq_true]
  exact ⟨fun ⟨x, hx, h⟩ => ⟨x, p.mem_iff.1 hx, h⟩, fun ⟨x, hx, h⟩ => ⟨x, p.mem_iff.2 hx, h⟩⟩
theorem perm_fit {l m : List Int} (p : l.Perm m) : fitS l = fitS m := by
  unfold fitS
  rw [perm_all p, p.countP_eq, p.countP_eq, p.countP_eq]
theorem perm_diff {l m : List Ln2} (p : l.Perm m) : diff l = diff m := by
  rw [Bool.eq_iff_iff, diff_iff, diff_iff]
  constructor
  · rintro ⟨x, hx, y, hy, hn⟩; exact ⟨x, p.mem_iff.1 hx, y, p.mem_iff.1 hy, hn⟩
  · rintro ⟨x, hx, y, hy, hn⟩; exact ⟨x, p.mem_iff.2 hx, y, p.mem_iff.2 hy, hn⟩
def Shot.rev (S : Shot) : Shot := { S with copies := S.copies.reverse, known := S.known.reverse, notes := S.notes.reverse }
theorem rev_wrong (S : Shot) : S.rev.wrong = S.wrong := by
  funext what at'
  have p1 : (S.rev.on at').Perm (S.on at') := (List.reverse_perm S.copies).filter _
  have p2 : (S.rev.gr at').Perm (S.gr at') := (List.reverse_perm S.notes).filter _
  unfold Shot.wrong
  rw [perm_fit (p1.map _), perm_diff (p1.map _), perm_any p1, perm_any p2]
  have p3 : S.rev.known.Perm S.known := List.reverse_perm S.known
  rw [perm_any p3]
  rfl
theorem wrongsA_congr {S T : Shot} (h : S.wrong = T.wrong) (what : Int) : ∀ f i, S.wrongsA what f i = T.wrongsA what f i := by
  intro f
  induction f with
  | zero => intro i; rfl
  | succ f ih => intro i; simp only [Shot.wrongsA, ih, h]
theorem wrongsW_congr {C : Cfg} {S T : Shot} (h : S.wrong = T.wrong) : ∀ f w, S.wrongsW C f w = T.wrongsW C f w := by
  intro f
  induction f with
  | zero => intro i; rfl
  | succ f ih => intro i; simp only [Shot.wrongsW, ih, wrongsA_congr h]
theorem rev_check (C : Cfg) (S : Shot) : S.rev.check C = S.check C := by
  have h1 : S.rev.may C = S.may C := by
    have e : S.rev.okB C = S.okB C := by
      unfold Shot.okB
      show ((S.copies.reverse.all _ && S.known.reverse.all _) && S.notes.reverse.all _) = _
      rw [perm_all (List.reverse_perm S.copies), perm_all (List.reverse_perm S.known), perm_all (List.reverse_perm S.notes)]
    unfold Shot.may
    rw [e]
    rfl
  unfold Shot.check
  rw [h1, Shot.wrongs, Shot.wrongs, wrongsW_congr (rev_wrong S)]
def smallC : Cfg := ⟨3, 2, 1, 1, 1, 1, 1⟩
theorem small_ok : smallC.Ok := by decide
end Go.Sf
end
