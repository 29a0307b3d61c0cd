/- The home: a new one. -/
import Derived.Test.YtagcnlaofkfpjaaDoorB4
import Derived.Test.YtagcnlaofkfpjaaDoorB5
section
namespace Go.Hm
open Go Go.Ab
structure Cfg where
  cores : Int
  granules : Int
  sets : Int
  ways : Int
  depth : Int
  entries : Int
  banks : Int
  deriving DecidableEq
def Cfg.list (C : Cfg) : List Int := [C.cores, C.granules, C.sets, C.ways, C.depth, C.entries, C.banks]
def Cfg.enc (C : Cfg) : List Value := [I C.cores, I C.granules, I C.sets, I C.ways, I C.depth, I C.entries, I C.banks]
def limL : List Int := [4, 16, 8, 4, 16, 8, 4]
def limE : List Value := [I 4, I 16, I 8, I 4, I 16, I 8, I 4]
def Cfg.ckF (C : Cfg) : Nat → Nat → Int
  | 0, _ => 0
  | f + 1, i => if C.list.getD i 0 < 1 ∨ limL.getD i 0 < C.list.getD i 0 then 10 else C.ckF f (i + 1)
def Cfg.Ok (C : Cfg) : Prop := (1 ≤ C.cores ∧ C.cores ≤ 4) ∧ (1 ≤ C.granules ∧ C.granules ≤ 16) ∧ (1 ≤ C.sets ∧ C.sets ≤ 8) ∧ (1 ≤ C.ways ∧ C.ways ≤ 4) ∧ (1 ≤ C.depth ∧ C.depth ≤ 16) ∧ (1 ≤ C.entries ∧ C.entries ≤ 8) ∧ (1 ≤ C.banks ∧ C.banks ≤ 4)
instance (C : Cfg) : Decidable C.Ok := by unfold Cfg.Ok; infer_instance
theorem Cfg.ck_eq (C : Cfg) : C.ckF 7 0 = if C.Ok then 0 else 10 := by
  simp only [Cfg.ckF, Cfg.list, limL, List.getD_cons_zero, List.getD_cons_succ]
  by_cases h : C.Ok
  · rw [if_pos h]
    unfold Cfg.Ok at h
    repeat rw [if_neg (by omega)]
  · rw [if_neg h]
    unfold Cfg.Ok at h
    repeat' split
    all_goals first | rfl | (exfalso; omega)
def Cfg.lines (C : Cfg) : Nat := (C.granules * 2).toNat
theorem Cfg.lines_eq {C : Cfg} (h : C.Ok) : (C.lines : Int) = C.granules * 2 ∧ 2 ≤ C.lines ∧ C.lines ≤ 32 := by
  unfold Cfg.Ok at h; unfold Cfg.lines; omega
end Go.Hm
end
section
namespace Go.Hm
open Go Go.Ab
abbrev Ln := Int × Int
def lnE (l : Ln) : List Value := [I l.1, I l.2]
/-- how many of the first 'n' lines are in a bank -/
def cntB (n B i : Nat) : Nat := (n + B - 1 - i) / B
theorem cntB_zero {B i : Nat} (hi : i < B) : cntB 0 B i = 0 := Nat.div_eq_of_lt (by omega)
theorem cntB_succ {n B i : Nat} (hi : i < B) : cntB (n + 1) B i = if i = n % B then cntB n B i + 1 else cntB n B i := by
  have hd := Nat.div_add_mod n B
  have hm := Nat.mod_lt n (show 0 < B by omega)
  unfold cntB
  generalize n / B = q at hd
  generalize n % B = r at hd hm ⊢
  subst hd
  split
  · rename_i h; subst h
    rw [show B * q + i + 1 + B - 1 - i = B * q + B by omega, show B * q + i + B - 1 - i = B * q + (B - 1) by omega]
    rw [Nat.mul_add_div (by omega), Nat.mul_add_div (by omega), Nat.div_self (by omega), Nat.div_eq_of_lt (show B - 1 < B by omega)]
  · rename_i h
    rcases Nat.lt_or_ge i r with h1 | h1
    · rw [show B * q + r + 1 + B - 1 - i = B * q + (B + (r - i)) by omega, show B * q + r + B - 1 - i = B * q + (B + (r - i - 1)) by omega]
      rw [Nat.mul_add_div (by omega), Nat.mul_add_div (by omega), Nat.add_div_left _ (by omega), Nat.add_div_left _ (by omega), Nat.div_eq_of_lt (show r - i < B by omega), Nat.div_eq_of_lt (show r - i - 1 < B by omega)]
    · rw [show B * q + r + 1 + B - 1 - i = B * q + (B + r - i) by omega, show B * q + r + B - 1 - i = B * q + (B + r - i - 1) by omega]
      rw [Nat.mul_add_div (by omega), Nat.mul_add_div (by omega), Nat.div_eq_of_lt (show B + r - i < B by omega), Nat.div_eq_of_lt (show B + r - i - 1 < B by omega)]
theorem cntB_at {n B l : Nat} (hB : 0 < B) (hl : l < n) : l / B < cntB n B (l % B) := by
  unfold cntB
  have hd := Nat.div_add_mod l B
  have hm := Nat.mod_lt l hB
  rw [Nat.lt_div_iff_mul_lt hB]
  rw [Nat.mul_comm]
  generalize B * (l / B) = q at hd ⊢
  omega
theorem bank_no {B l k i : Nat} (hi : i < B) : k * B + i = l ↔ k = l / B ∧ i = l % B := by
  constructor
  · intro h; subst h
    rw [Nat.mul_comm, Nat.mul_add_div (by omega), Nat.mul_add_mod, Nat.div_eq_of_lt hi, Nat.mod_eq_of_lt hi]; simp
  · rintro ⟨rfl, rfl⟩
    have := Nat.div_add_mod l B
    rw [Nat.mul_comm]; exact this
theorem Cfg.bk {C : Cfg} (h : C.Ok) : (C.banks.toNat : Int) = C.banks ∧ 0 < C.banks.toNat ∧ C.banks.toNat ≤ 4 := by unfold Cfg.Ok at h; omega
/-- the lines of a bank -/
def bkC (B i : Nat) (mem : Nat → Ln) : Nat → List Value := fun k => lnE (mem (k * B + i))
theorem bkC_len {B i : Nat} {mem : Nat → Ln} (k : Nat) : (bkC B i mem k).length = 2 := rfl
theorem updA_self {α : Type} {f : Nat → α} {i : Nat} : updA f i (f i) = f := by
  funext j; unfold updA; split
  · rename_i h; rw [h]
  · rfl
theorem bkC_at {B l : Nat} {mem : Nat → Ln} (hB : 0 < B) : bkC B (l % B) mem (l / B) = lnE (mem l) := by
  unfold bkC; rw [(bank_no (Nat.mod_lt l hB)).2 ⟨rfl, rfl⟩]
theorem bkC_upd {B l : Nat} {mem : Nat → Ln} {v : Ln} (hB : 0 < B) : updA (bkC B (l % B) mem) (l / B) (lnE v) = bkC B (l % B) (updA mem l v) := by
  funext k
  unfold bkC updA
  have := (bank_no (l := l) (k := k) (Nat.mod_lt l hB))
  by_cases h : k = l / B
  · rw [if_pos h, if_pos (this.2 ⟨h, rfl⟩)]
  · rw [if_neg h, if_neg (fun e => h (this.1 e).1)]
theorem bkC_ne {B l i : Nat} {mem : Nat → Ln} {v : Ln} (hi : i < B) (h : i ≠ l % B) : bkC B i (updA mem l v) = bkC B i mem := by
  funext k
  unfold bkC updA
  rw [if_neg (fun e => h ((bank_no hi).1 e).2)]
theorem cntB_le {n B i : Nat} (hB : 0 < B) : cntB n B i ≤ n := by
  unfold cntB
  refine Nat.le_of_lt_succ (Nat.div_lt_of_lt_mul ?_)
  rw [Nat.mul_succ]
  have : n ≤ B * n := Nat.le_mul_of_pos_left _ hB
  omega
def mem0 : Nat → Ln := fun _ => (0, 0)
end Go.Hm
end
section
namespace Go.Hm
open Go Go.Ab

structure Note where
  kind : Int
  core : Int
  line : Int
  world : Int
  state : Int
  d0 : Int
  d1 : Int
  dirty : Bool
  no : Int
  deriving DecidableEq
def Note.enc (n : Note) : List Value := [I n.kind, I n.core, I n.line, I n.world, I n.state, I n.d0, I n.d1, .bool n.dirty, I n.no]
def Note.zero : Note := ⟨0, 0, 0, 0, 0, 0, 0, false, 0⟩
def encNs (l : List Note) : List Value := l.flatMap Note.enc
theorem encNs_len (l : List Note) : (encNs l).length = l.length * 9 := by
  induction l with
  | nil => rfl
  | cons n l ih => simp only [encNs, List.flatMap_cons, List.length_append] at ih ⊢; rw [ih]; simp [Note.enc]; omega
theorem encNs_cells (l : List Note) : (encNs l).all cellB = true := by
  induction l with
  | nil => rfl
  | cons n l ih => simp only [encNs, List.flatMap_cons, List.all_append] at ih ⊢; rw [ih]; rfl
theorem encNs_append (l m : List Note) : encNs (l ++ m) = encNs l ++ encNs m := by simp [encNs]
@[simp] theorem encNs_cons (n : Note) (l : List Note) : encNs (n :: l) = n.enc ++ encNs l := rfl
@[simp] theorem encNs_nil : encNs [] = [] := rfl
structure Row where
  owner : Int
  sh : Nat → Bool
  waits : List Note
  busy : Bool
  served : Note
  world : Int
  asked : Nat → Bool
  granted : Bool
  told : Bool
  d0 : Int
  d1 : Int
def Row.enc (r : Row) (a : Option Addr) (c : Nat) : List Value :=
  [I r.owner, .bool (r.sh 0), .bool (r.sh 1), .bool (r.sh 2), .bool (r.sh 3), .slice a r.waits.length c, .bool r.busy, I r.served.kind, I r.served.core, I r.served.line, I r.served.world, I r.served.state, I r.served.d0, I r.served.d1, .bool r.served.dirty, I r.served.no,
   I r.world, .bool (r.asked 0), .bool (r.asked 1), .bool (r.asked 2), .bool (r.asked 3), .bool r.granted, .bool r.told, I r.d0, I r.d1]
def Row.encA (r : Row) : List Value := [I r.owner, .bool (r.sh 0), .bool (r.sh 1), .bool (r.sh 2), .bool (r.sh 3)]
def Row.encB (r : Row) (a : Option Addr) (c : Nat) : List Value :=
  [.slice a r.waits.length c, .bool r.busy, I r.served.kind, I r.served.core, I r.served.line, I r.served.world, I r.served.state, I r.served.d0, I r.served.d1, .bool r.served.dirty, I r.served.no,
   I r.world, .bool (r.asked 0), .bool (r.asked 1), .bool (r.asked 2), .bool (r.asked 3), .bool r.granted, .bool r.told, I r.d0, I r.d1]
theorem Row.enc_split (r : Row) (a : Option Addr) (c : Nat) : r.enc a c = r.encA ++ r.encB a c := rfl
def updB (f : Nat → Bool) (i : Int) (v : Bool) : Nat → Bool := fun j => if (j : Int) = i then v else f j
def Row.free (r : Row) : Row := { r with busy := false, granted := false, told := false, served := Note.zero, world := 0, d0 := 0, d1 := 0 }
def Row.leave (r : Row) (core : Int) : Row := { r with sh := updB r.sh core false, owner := if r.owner = core then -1 else r.owner }
/-- is a core a holder? -/
def Row.holds (r : Row) (but : Int) (i : Nat) : Bool := decide ((i : Int) ≠ but) && (r.sh i || decide ((i : Int) = r.owner))
theorem holds1 {r : Row} {x : Int} {i : Nat} (h : (i : Int) ≠ x) (h1 : r.sh i = true) : r.holds x i = true := by simp [Row.holds, h, h1]
theorem holds2 {r : Row} {x : Int} {i : Nat} (h : (i : Int) ≠ x) (h1 : (i : Int) = r.owner) : r.holds x i = true := by
  unfold Row.holds; rw [decide_eq_true h, decide_eq_true h1]; simp
theorem holdsN1 {r : Row} {x : Int} {i : Nat} (h : (i : Int) = x) : r.holds x i = false := by
  unfold Row.holds; rw [decide_eq_false (by simpa using h)]; rfl
theorem holdsN2 {r : Row} {x : Int} {i : Nat} (h : r.sh i = false) (h1 : (i : Int) ≠ r.owner) : r.holds x i = false := by
  unfold Row.holds; rw [h, decide_eq_false h1]; simp
def Row.firstF (r : Row) (but : Int) : Nat → Nat → Int
  | 0, _ => -1
  | f + 1, i => if r.holds but i then i else r.firstF but f (i + 1)
def Row.first (r : Row) (but : Int) : Int := r.firstF but 4 0
def Row.holdersF (r : Row) (but : Int) : Nat → Nat → List Nat
  | 0, _ => []
  | f + 1, i => if r.holds but i then i :: r.holdersF but f (i + 1) else r.holdersF but f (i + 1)
def Row.holders (r : Row) (but : Int) : List Nat := r.holdersF but 4 0
def Row.askAll (r : Row) (l : List Nat) : Row := { r with asked := fun j => r.asked j || l.contains j }
def probes (line state : Int) (l : List Nat) : List Note := l.map fun (i : Nat) => { Note.zero with kind := 11, core := (i : Int), line := line, state := state }
/-- nobody's Reply is waited for -/
def Row.quiet (r : Row) : Bool := !(r.asked 0 || r.asked 1 || r.asked 2 || r.asked 3)
/-- a line: its row, and what memory has of it -/
abbrev Lin := Row × Ln
def Row.dat (r : Row) (m : Ln) : Ln := if r.told then (r.d0, r.d1) else m
def Row.grantN (r : Row) (line st : Int) (d : Ln) : Note := ⟨8, r.served.core, line, r.world, st, d.1, d.2, false, 0⟩
def Row.grant (r : Row) (line : Int) (d : Ln) : Row × List Note :=
  if r.served.kind = 2 then ({ r with owner := r.served.core, sh := fun _ => false, granted := true }, [r.grantN line 4 d])
  else if r.first r.served.core = -1 then ({ r with owner := r.served.core, sh := updB r.sh r.served.core false, granted := true }, [r.grantN line 2 d])
  else ({ r with sh := updB r.sh r.served.core true, granted := true }, [r.grantN line 1 d])
def valid (s : Int) : Bool := decide (0 ≤ s ∧ s < 5) && decide (s ≠ 0)
def Row.heard1 (r : Row) (n : Note) : Row := { r with asked := updB r.asked n.core false }
def Row.heard2 (r : Row) (n : Note) : Row := { r with owner := -1, sh := updB r.sh n.core (valid n.state) }
def Row.heard3 (r : Row) (n : Note) : Row := { r with told := true, d0 := n.d0, d1 := n.d1 }
/-- what a Reply turns, ahead of what comes of it -/
def Row.heard (r : Row) (n : Note) : Row :=
  if r.served.kind ≠ 1 then (r.heard1 n).leave n.core
  else if n.state ≠ 3 then (if n.dirty then ((r.heard1 n).heard2 n).heard3 n else (r.heard1 n).heard2 n)
  else if n.dirty then (r.heard1 n).heard3 n else r.heard1 n
def Row.heardM (r : Row) (m : Ln) (n : Note) : Ln := if r.served.kind ≠ 1 ∧ n.dirty = true then (n.d0, n.d1) else m
/-- what comes of it -/
def Row.rest (r : Row) (line : Int) (m : Ln) : Row × List Note :=
  if r.quiet then (if r.served.kind = 0 then (r.free, []) else r.grant line (r.dat m)) else (r, [])
def Lin.reply (x : Lin) (line : Int) (n : Note) : Lin × List Note :=
  let m := x.1.heardM x.2 n
  let g := (x.1.heard n).rest line m
  ((g.1, m), g.2)
def Row.serve (r : Row) (n : Note) (world : Int) : Row := { r with busy := true, served := n, world := world }
def Row.getM (r : Row) (line : Int) (m : Ln) : Row × List Note :=
  if r.first r.served.core ≠ -1 then (r.askAll (r.holders r.served.core), probes line 0 (r.holders r.served.core)) else r.grant line (r.dat m)
def Row.getS (r : Row) (line : Int) (m : Ln) : Row × List Note :=
  if r.owner ≠ -1 then (r.askAll [r.owner.toNat], probes line 1 [r.owner.toNat]) else r.grant line (r.dat m)
def Row.unown (r : Row) : Row := if r.owner = r.served.core then { r with owner := -1 } else r
def Row.get (r : Row) (line : Int) (m : Ln) (n : Note) (world : Int) : Row × List Note :=
  let r := r.serve n world
  if n.kind = 2 then r.getM line m else r.unown.getS line m
def Row.wait (r : Row) (n : Note) : Row := { r with waits := r.waits ++ [n] }
def Row.next (r : Row) (w : List Note) : Row := { r with waits := w }
def Row.serve0 (r : Row) (n : Note) : Row := { r with busy := true, served := n }
def Lin.take (x : Lin) (line : Int) (n : Note) : Lin × List Note × Int :=
  if n.kind = 4 then (if x.1.granted = false ∨ x.1.served.core ≠ n.core then (x, [], 16) else ((x.1.free, x.2), [], 0))
  else if n.kind = 5 then (if x.1.asked n.core.toNat = false then (x, [], 16) else let g := Lin.reply x line n; (g.1, g.2, 0))
  else ((x.1.wait n, x.2), [], 0)
def sweepN (line : Int) : Note := { Note.zero with line := line }
def Lin.sweep (x : Lin) (line : Int) : Lin := (x.1.wait (sweepN line), x.2)
def ackN (kind core line : Int) : Note := { Note.zero with kind := kind, core := core, line := line }
/-- the first request is served; 'j': what the judge tells of a world -/
def Row.begun (r : Row) (line : Int) (m : Ln) (n : Note) (j : Int → Int × Bool) : Lin × List Note :=
  if n.kind = 3 then ((r.leave n.core, if r.owner = n.core ∧ n.dirty = true then (n.d0, n.d1) else m), [ackN 10 n.core line])
  else if n.kind = 1 ∨ n.kind = 2 then (if (j n.world).2 = true then let g := r.get line m n (j n.world).1; ((g.1, m), g.2) else ((r, m), [ackN 9 n.core line]))
  else if r.first (-1) = -1 then ((r, m), [])
  else (((r.serve0 n).askAll (r.holders (-1)), m), probes line 0 (r.holders (-1)))
def Lin.begin (x : Lin) (line : Int) (j : Int → Int × Bool) : Lin × List Note × Int :=
  if x.1.busy = true then (x, [], 16)
  else match x.1.waits with
    | [] => (x, [], 12)
    | n :: w => let g := Row.begun (x.1.next w) line x.2 n j; (g.1, g.2, 0)
abbrev Hom := Nat → Lin
def row0 : Row := ⟨-1, fun _ => false, [], false, Note.zero, 0, fun _ => false, false, false, 0, 0⟩
def hom0 : Hom := fun _ => (row0, (0, 0))
theorem holdersF_lt {r : Row} {x : Int} : ∀ (f i : Nat), i + f = 4 → (∀ c ∈ r.holdersF x f i, c < 4) ∧ (r.holdersF x f i).length ≤ f := by
  intro f
  induction f with
  | zero => intro i hi; simp [Row.holdersF]
  | succ f ih =>
    intro i hi
    obtain ⟨h1, h2⟩ := ih (i + 1) (by omega)
    unfold Row.holdersF
    split
    · refine ⟨fun c hc => ?_, by simp; omega⟩
      rcases List.mem_cons.1 hc with rfl | hc
      · omega
      · exact h1 c hc
    · exact ⟨h1, by omega⟩
theorem holders_lt {r : Row} {x : Int} : ∀ c ∈ r.holders x, c < 4 := (holdersF_lt 4 0 rfl).1
theorem holders_len {r : Row} {x : Int} : (r.holders x).length ≤ 4 := (holdersF_lt 4 0 rfl).2
/-- is there such a line? -/
def Cfg.has (C : Cfg) (l : Int) : Prop := 0 ≤ l ∧ l < C.lines
instance (C : Cfg) (l : Int) : Decidable (C.has l) := by unfold Cfg.has; infer_instance
def takes (k : Int) : Prop := k = 1 ∨ k = 2 ∨ k = 3 ∨ k = 4 ∨ k = 5
instance (k : Int) : Decidable (takes k) := by unfold takes; infer_instance
def Hom.at (H : Hom) (l : Int) : Lin := H l.toNat
def homTake (C : Cfg) (H : Hom) (n : Note) : Hom × List Note × Int :=
  if ¬ takes n.kind then (H, [], 15)
  else if (0 ≤ n.core ∧ n.core < C.cores) ∧ C.has n.line then (updA H n.line.toNat (Lin.take (H n.line.toNat) n.line n).1, (Lin.take (H n.line.toNat) n.line n).2)
  else (H, [], 10)
def homSweep (C : Cfg) (H : Hom) (l : Int) : Hom × Int := if C.has l then (updA H l.toNat (Lin.sweep (H l.toNat) l), 0) else (H, 10)
def homBegin (C : Cfg) (H : Hom) (l : Int) (j : Int → Int × Bool) : Hom × List Note × Int :=
  if C.has l then (updA H l.toNat (Lin.begin (H l.toNat) l j).1, (Lin.begin (H l.toNat) l j).2) else (H, [], 10)
structure Row.Inv (r : Row) : Prop where
  core : 0 ≤ r.served.core ∧ r.served.core < 4
  owner : -1 ≤ r.owner ∧ r.owner < 4
  waits : ∀ n ∈ r.waits, 0 ≤ n.core ∧ n.core < 4
def HInv (C : Cfg) (H : Hom) (N : Nat) : Prop := ∀ l, l < C.lines → (H l).1.Inv ∧ (H l).1.waits.length ≤ N
def homBusy (C : Cfg) (H : Hom) (l : Int) : Bool := decide (C.has l) && (H l.toNat).1.busy
def homWaits (C : Cfg) (H : Hom) (l : Int) : Int := if C.has l then ((H l.toNat).1.waits.length : Int) else 0
def Row.sharersF (r : Row) : Nat → Nat → List Nat
  | 0, _ => []
  | f + 1, i => if r.sh i then i :: r.sharersF f (i + 1) else r.sharersF f (i + 1)
def Row.sharers (r : Row) : List Nat := r.sharersF 4 0
def homWho (C : Cfg) (H : Hom) (l : Int) : Int × List Nat × Int := if C.has l then ((H l.toNat).1.owner, (H l.toNat).1.sharers, 0) else (0, [], 10)
theorem sharersF_len {r : Row} : ∀ (f i : Nat), (r.sharersF f i).length ≤ f := by
  intro f
  induction f with
  | zero => intro i; simp [Row.sharersF]
  | succ f ih => intro i; have := ih (i + 1); unfold Row.sharersF; split <;> simp <;> omega
/-- a home in the making: of the first rows the owner is told -/
def homM (n : Nat) : Hom := fun i => if i < n then (row0, (0, 0)) else ({ row0 with owner := 0 }, (0, 0))
theorem homM_succ {n : Nat} : updA (homM n) n (row0, (0, 0)) = homM (n + 1) := by
  funext i
  unfold updA homM
  by_cases h : i = n
  · rw [if_pos h, if_pos (by omega)]
  · rw [if_neg h]
    by_cases h2 : i < n
    · rw [if_pos h2, if_pos (by omega)]
    · rw [if_neg h2, if_neg (by omega)]
theorem encNs_at : ∀ (l : List Note) (i : Nat) (n : Note), l[i]? = some n → ((encNs l).drop (i * 9)).take 9 = n.enc
  | [], i, n, h => by simp at h
  | m :: l, 0, n, h => by simp at h; subst h; simp [Note.enc]
  | m :: l, i + 1, n, h => by
    have ih := encNs_at l i n (by simpa using h)
    have e : (i + 1) * 9 = m.enc.length + i * 9 := by show (i + 1) * 9 = 9 + i * 9; omega
    rw [encNs_cons, e, List.drop_append, List.drop_eq_nil_of_le (show m.enc.length ≤ m.enc.length + i * 9 by omega), List.nil_append, show m.enc.length + i * 9 - m.enc.length = i * 9 by omega]
    exact ih
/-- a note with which a request begins to be served -/
def Note.fits (n r : Note) (len : Nat) : Prop :=
  n.line = r.line ∧ n.no = 0 ∧ ((n.kind = 8 ∧ n.core = r.core ∧ len = 1 ∧ (r.kind = 1 ∨ r.kind = 2)) ∨ (n.kind = 9 ∧ n.world = 0 ∧ n.core = r.core ∧ len = 1 ∧ (r.kind = 1 ∨ r.kind = 2)) ∨
    (n.kind = 10 ∧ n.world = 0 ∧ n.core = r.core ∧ len = 1 ∧ r.kind = 3) ∨ (n.kind = 11 ∧ n.world = 0 ∧ n.core ≠ r.core ∧ (r.kind = 1 ∨ r.kind = 2 ∨ (r.kind = 0 ∧ n.state = 0))))
end Go.Hm
end
section
namespace Go.Hm
open Go Go.Ab
structure LInv (k : Nat) (r : Row) : Prop where
  core : 0 ≤ r.served.core ∧ r.served.core < 4
  owner : -1 ≤ r.owner ∧ r.owner < 4
  waits : ∀ n ∈ r.waits, n.line = k ∧ (0 ≤ n.core ∧ n.core < 4) ∧ (n.kind = 0 ∨ n.kind = 1 ∨ n.kind = 2 ∨ n.kind = 3)
  apart : ∀ i : Nat, i < 4 → r.sh i = true → (i : Int) ≠ r.owner
  want : r.busy = true → r.granted = false → r.served.kind = 0 ∨ r.served.kind = 2 ∨ r.owner ≠ r.served.core
  still : r.granted = true ∨ r.busy = false → r.quiet = true
  gb : r.granted = true → r.busy = true
theorem LInv.inv {k : Nat} {r : Row} (h : LInv k r) : r.Inv := ⟨h.core, h.owner, fun n hn => (h.waits n hn).2.1⟩
theorem LInv0 (k : Nat) : LInv k row0 := ⟨by decide, by decide, by simp [row0], by simp [row0], by simp [row0], fun _ => rfl, by simp [row0]⟩
theorem quiet_of {r r' : Row} (h : r'.asked = r.asked) : r'.quiet = r.quiet := by unfold Row.quiet; rw [h]
theorem leave_apart {k : Nat} {r : Row} {c : Int} (h : LInv k r) : LInv k (r.leave c) where
  core := h.core
  owner := by unfold Row.leave; simp only; split; omega; exact h.owner
  waits := h.waits
  apart := fun i hi hs => by
    unfold Row.leave updB at hs ⊢
    simp only at hs ⊢
    split at hs
    · cases hs
    · split
      · omega
      · exact h.apart i hi hs
  want := fun h1 h2 => by
    rcases h.want h1 h2 with h | h | h3
    · exact .inl h
    · exact .inr (.inl h)
    · refine .inr (.inr ?_)
      have := h.core
      unfold Row.leave
      simp only
      split
      · omega
      · exact h3
  still := fun h1 => (quiet_of (r' := r.leave c) rfl).trans (h.still h1)
  gb := h.gb
theorem free_linv {k : Nat} {r : Row} (h : LInv k r) (hq : r.quiet = true) : LInv k r.free where
  core := by show (0 : Int) ≤ 0 ∧ (0 : Int) < 4; omega
  owner := h.owner
  waits := h.waits
  apart := h.apart
  want := fun h1 => by cases h1
  still := fun _ => (quiet_of (r' := r.free) rfl).trans hq
  gb := fun h1 => by cases h1
theorem wait_linv {k : Nat} {r : Row} {n : Note} (h : LInv k r) (h1 : n.line = k) (h2 : 0 ≤ n.core ∧ n.core < 4) (h3 : n.kind = 0 ∨ n.kind = 1 ∨ n.kind = 2 ∨ n.kind = 3) : LInv k (r.wait n) where
  core := h.core
  owner := h.owner
  waits := fun m hm => by
    rcases List.mem_append.1 hm with hm | hm
    · exact h.waits m hm
    · rw [List.mem_singleton.1 hm]; exact ⟨h1, h2, h3⟩
  apart := h.apart
  want := h.want
  still := fun h1 => (quiet_of (r' := r.wait n) rfl).trans (h.still h1)
  gb := h.gb
theorem next_linv {k : Nat} {r : Row} {n : Note} {w : List Note} (h : LInv k r) (hw : r.waits = n :: w) : LInv k (r.next w) where
  core := h.core
  owner := h.owner
  waits := fun m hm => h.waits m (by rw [hw]; exact List.mem_cons_of_mem _ hm)
  apart := h.apart
  want := h.want
  still := fun h1 => (quiet_of (r' := r.next w) rfl).trans (h.still h1)
  gb := h.gb
/-- a line that is served, ahead of what comes of it -/
structure LSrv (k : Nat) (r : Row) : Prop where
  core : 0 ≤ r.served.core ∧ r.served.core < 4
  owner : -1 ≤ r.owner ∧ r.owner < 4
  waits : ∀ n ∈ r.waits, n.line = k ∧ (0 ≤ n.core ∧ n.core < 4) ∧ (n.kind = 0 ∨ n.kind = 1 ∨ n.kind = 2 ∨ n.kind = 3)
  apart : ∀ i : Nat, i < 4 → r.sh i = true → (i : Int) ≠ r.owner
  want : r.served.kind = 0 ∨ r.served.kind = 2 ∨ r.owner ≠ r.served.core
  busy : r.busy = true
  gr : r.granted = false
theorem LSrv.linv {k : Nat} {r : Row} (h : LSrv k r) : LInv k r := ⟨h.core, h.owner, h.waits, h.apart, fun _ _ => h.want, fun h1 => by rw [h.busy, h.gr] at h1; simp at h1, fun h1 => by rw [h.gr] at h1; cases h1⟩
theorem grant_linv {k : Nat} {r : Row} {line : Int} {d : Ln} (h : LSrv k r) (h0 : r.served.kind ≠ 0) (hq : r.quiet = true) : LInv k (r.grant line d).1 := by
  have hc := h.core
  unfold Row.grant
  split
  · exact ⟨h.core, by simp only; omega, h.waits, fun i _ hs => (by cases hs), fun _ h2 => (by cases h2), fun _ => hq, fun _ => h.busy⟩
  · rename_i h2
    split
    · refine ⟨h.core, by simp only; omega, h.waits, fun i hi hs => ?_, fun _ h2 => (by cases h2), fun _ => hq, fun _ => h.busy⟩
      simp only [updB] at hs ⊢
      split at hs
      · cases hs
      · assumption
    · refine ⟨h.core, h.owner, h.waits, fun i hi hs => ?_, fun _ h2 => (by cases h2), fun _ => hq, fun _ => h.busy⟩
      simp only [updB] at hs ⊢
      split at hs
      · rename_i e
        rcases h.want with h | h | h
        · exact absurd h h0
        · exact absurd h h2
        · rw [e]; exact Ne.symm h
      · exact h.apart i hi hs
theorem askAll_linv {k : Nat} {r : Row} {l : List Nat} (h : LSrv k r) : LInv k (r.askAll l) := LSrv.linv ⟨h.core, h.owner, h.waits, h.apart, h.want, h.busy, h.gr⟩
theorem rest_linv {k : Nat} {r : Row} {line : Int} {m : Ln} (h : LSrv k r) : LInv k (r.rest line m).1 := by
  unfold Row.rest
  split
  · rename_i hq
    split
    · exact free_linv h.linv hq
    · rename_i h0
      exact grant_linv h h0 hq
  · exact h.linv
theorem heard_lsrv {k : Nat} {r : Row} {n : Note} (h : LInv k r) (hn : 0 ≤ n.core ∧ n.core < 4) (ha : r.asked n.core.toNat = true) : LSrv k (r.heard n) := by
  have hnq : r.quiet = false := by
    have : n.core.toNat = 0 ∨ n.core.toNat = 1 ∨ n.core.toNat = 2 ∨ n.core.toNat = 3 := by omega
    unfold Row.quiet
    rcases this with e | e | e | e <;> rw [e] at ha <;> rw [ha] <;> simp
  have hg : r.granted = false := by
    cases hg : r.granted with
    | false => rfl
    | true => have := h.still (.inl hg); rw [hnq] at this; cases this
  have hb : r.busy = true := by
    cases hb : r.busy with
    | true => rfl
    | false => have := h.still (.inr hb); rw [hnq] at this; cases this
  have h1 : LSrv k (r.heard1 n) := ⟨h.core, h.owner, h.waits, h.apart, h.want hb hg, hb, hg⟩
  have h2 : LSrv k ((r.heard1 n).heard2 n) := ⟨h.core, by show -1 ≤ (-1 : Int) ∧ (-1 : Int) < 4; omega, h.waits, fun i hi _ => by show (i : Int) ≠ -1; omega, by
    have := h.core
    right; right
    show (-1 : Int) ≠ r.served.core
    omega, hb, hg⟩
  have h3 : ∀ {r : Row}, LSrv k r → LSrv k (r.heard3 n) := fun h => ⟨h.core, h.owner, h.waits, h.apart, h.want, h.busy, h.gr⟩
  unfold Row.heard
  split
  · have := leave_apart (c := n.core) h1.linv
    exact ⟨this.core, this.owner, this.waits, this.apart, this.want hb hg, hb, hg⟩
  · split
    · split
      · exact h3 h2
      · exact h2
    · split
      · exact h3 h1
      · exact h1
theorem take_linv {k : Nat} {x : Lin} {n : Note} (h : LInv k x.1) (ht : takes n.kind) (h1 : n.line = k) (hn : 0 ≤ n.core ∧ n.core < 4) : LInv k (Lin.take x k n).1.1 := by
  unfold Lin.take
  split
  · split
    · exact h
    · rename_i h2
      have hg : x.1.granted = true := by
        cases hg : x.1.granted with
        | true => rfl
        | false => exact absurd (.inl hg) h2
      exact free_linv h (h.still (.inl hg))
  · split
    · split
      · exact h
      · rename_i ha
        exact rest_linv (heard_lsrv h hn (by simpa using ha))
    · rename_i h4 h5
      exact wait_linv h h1 hn (by unfold takes at ht; omega)
theorem firstF_holdersF {r : Row} {x : Int} : ∀ (f i : Nat), r.firstF x f i ≠ -1 → r.holdersF x f i ≠ [] := by
  intro f
  induction f with
  | zero => intro i h; exact absurd rfl h
  | succ f ih =>
    intro i h
    unfold Row.firstF at h
    unfold Row.holdersF
    split
    · simp
    · rename_i hh; rw [if_neg hh] at h; exact ih _ h
theorem holdersF_ne {r : Row} {x : Int} : ∀ (f i : Nat), ∀ c ∈ r.holdersF x f i, (c : Int) ≠ x := by
  intro f
  induction f with
  | zero => intro i c hc; simp [Row.holdersF] at hc
  | succ f ih =>
    intro i c hc
    unfold Row.holdersF at hc
    split at hc
    · rename_i hh
      rcases List.mem_cons.1 hc with rfl | hc
      · unfold Row.holds at hh; simp at hh; exact hh.1
      · exact ih _ c hc
    · exact ih _ c hc
/-- a request, as the law keeps it -/
def Note.face (n : Note) : Note := if n.kind = 0 then { n with core := -1 } else n
theorem grant_fits {k : Nat} {r : Row} {d : Ln} {n : Note} (hs : r.served.core = n.core) (hk : n.kind = 1 ∨ n.kind = 2) (hl : n.line = k) : (∀ m ∈ (r.grant k d).2, m.fits n.face (r.grant k d).2.length) ∧ (r.grant k d).2 ≠ [] := by
  have hf : n.face = n := by unfold Note.face; rw [if_neg (by omega)]
  rw [hf]
  unfold Row.grant
  split
  · refine ⟨fun m hm => ?_, by simp⟩
    rw [List.mem_singleton.1 hm]
    exact ⟨hl.symm, rfl, .inl ⟨rfl, hs, rfl, hk⟩⟩
  · split
    · refine ⟨fun m hm => ?_, by simp⟩
      rw [List.mem_singleton.1 hm]
      exact ⟨hl.symm, rfl, .inl ⟨rfl, hs, rfl, hk⟩⟩
    · refine ⟨fun m hm => ?_, by simp⟩
      rw [List.mem_singleton.1 hm]
      exact ⟨hl.symm, rfl, .inl ⟨rfl, hs, rfl, hk⟩⟩
theorem probes_fits {k : Nat} {n : Note} {st : Int} {l : List Nat} (hl : n.line = k) (hk : n.kind = 1 ∨ n.kind = 2 ∨ (n.kind = 0 ∧ st = 0)) (hc : ∀ c ∈ l, (c : Int) ≠ n.face.core) {len : Nat} : ∀ m ∈ probes k st l, m.fits n.face len := by
  intro m hm
  obtain ⟨c, hcm, rfl⟩ := List.mem_map.1 hm
  have h1 : n.face.line = k := by unfold Note.face; split <;> exact hl
  have h2 : n.face.kind = n.kind := by unfold Note.face; split <;> rfl
  refine ⟨h1.symm, rfl, .inr (.inr (.inr ⟨rfl, rfl, hc c hcm, ?_⟩))⟩
  rw [h2]
  rcases hk with h | h | ⟨h, h'⟩
  · exact .inl h
  · exact .inr (.inl h)
  · exact .inr (.inr ⟨h, h'⟩)
theorem get_law {k : Nat} {r : Row} {n : Note} {w : Int} {m : Ln} (h : LInv k r) (hb : r.busy = false) (hl : n.line = k) (hn : 0 ≤ n.core ∧ n.core < 4) (hk : n.kind = 1 ∨ n.kind = 2) :
    LInv k (r.get k m n w).1 ∧ (∀ x ∈ (r.get k m n w).2, x.fits n.face (r.get k m n w).2.length) ∧ (r.get k m n w).2 ≠ [] := by
  have hq := h.still (.inr hb)
  have hg : r.granted = false := by
    cases hg : r.granted with
    | false => rfl
    | true => have := h.gb hg; rw [hb] at this; cases this
  have hf : n.face = n := by unfold Note.face; rw [if_neg (by omega)]
  unfold Row.get
  simp only
  split
  · rename_i h2
    have hs : LSrv k (r.serve n w) := ⟨hn, h.owner, h.waits, h.apart, .inr (.inl h2), rfl, hg⟩
    unfold Row.getM
    split
    · rename_i h3
      refine ⟨askAll_linv hs, ?_, ?_⟩
      · exact probes_fits hl (.inr (.inl h2)) (fun c hc => by rw [hf]; exact holdersF_ne 4 0 c hc)
      · have := firstF_holdersF 4 0 h3
        intro e
        exact this (List.map_eq_nil_iff.1 e)
    · exact ⟨grant_linv hs (by show n.kind ≠ 0; omega) hq, grant_fits rfl hk hl⟩
  · rename_i h2
    have h1 : n.kind = 1 := by omega
    have hu : (r.serve n w).unown.served = n ∧ (r.serve n w).unown.asked = r.asked ∧ ((r.serve n w).unown.owner = -1 ∨ ((r.serve n w).unown.owner = r.owner ∧ r.owner ≠ n.core)) ∧ LSrv k (r.serve n w).unown := by
      unfold Row.unown
      split
      · refine ⟨rfl, rfl, .inl rfl, ⟨hn, by show -1 ≤ (-1 : Int) ∧ (-1 : Int) < 4; omega, h.waits, fun i _ _ => by show (i : Int) ≠ -1; omega, .inr (.inr ?_), rfl, hg⟩⟩
        show (-1 : Int) ≠ n.core
        omega
      · rename_i h3
        exact ⟨rfl, rfl, .inr ⟨rfl, h3⟩, ⟨hn, h.owner, h.waits, h.apart, .inr (.inr h3), rfl, hg⟩⟩
    generalize (r.serve n w).unown = r2 at hu
    obtain ⟨u1, u2, u3, u4⟩ := hu
    unfold Row.getS
    split
    · rename_i h3
      refine ⟨askAll_linv u4, ?_, by simp [probes]⟩
      refine probes_fits hl (.inl h1) (fun c hc => ?_)
      rw [List.mem_singleton.1 hc, hf]
      have := u4.owner
      omega
    · exact ⟨grant_linv u4 (by rw [u1]; omega) (by rw [quiet_of u2]; exact hq), grant_fits (by rw [u1]) hk hl⟩
theorem begun_law {k : Nat} {r : Row} {n : Note} {m : Ln} {j : Int → Int × Bool} (h : LInv k r) (hb : r.busy = false) (hl : n.line = k) (hn : 0 ≤ n.core ∧ n.core < 4) (hk : n.kind = 0 ∨ n.kind = 1 ∨ n.kind = 2 ∨ n.kind = 3) :
    LInv k (r.begun k m n j).1.1 ∧ (∀ x ∈ (r.begun k m n j).2, x.fits n.face (r.begun k m n j).2.length) ∧ ((r.begun k m n j).2 ≠ [] ∨ n.face.kind = 0) := by
  have hq := h.still (.inr hb)
  have hg : r.granted = false := by
    cases hg : r.granted with
    | false => rfl
    | true => have := h.gb hg; rw [hb] at this; cases this
  unfold Row.begun
  split
  · rename_i h3
    have hf : n.face = n := by unfold Note.face; rw [if_neg (by omega)]
    refine ⟨leave_apart h, fun x hx => ?_, .inl (by simp)⟩
    rw [List.mem_singleton.1 hx, hf]
    exact ⟨hl.symm, rfl, .inr (.inr (.inl ⟨rfl, rfl, rfl, rfl, h3⟩))⟩
  · rename_i h3
    split
    · rename_i h12
      have hf : n.face = n := by unfold Note.face; rw [if_neg (by omega)]
      split
      · obtain ⟨a, b, c⟩ := get_law (m := m) (w := (j n.world).1) h hb hl hn h12
        exact ⟨a, b, .inl c⟩
      · refine ⟨h, fun x hx => ?_, .inl (by simp)⟩
        rw [List.mem_singleton.1 hx, hf]
        exact ⟨hl.symm, rfl, .inr (.inl ⟨rfl, rfl, rfl, rfl, h12⟩)⟩
    · rename_i h12
      have h0 : n.kind = 0 := by omega
      have hf : n.face = { n with core := -1 } := by unfold Note.face; rw [if_pos h0]
      split
      · exact ⟨h, by simp, .inr (by rw [hf]; exact h0)⟩
      · refine ⟨askAll_linv (r := r.serve0 n) ⟨hn, h.owner, h.waits, h.apart, .inl h0, rfl, hg⟩, ?_, .inr (by rw [hf]; exact h0)⟩
        exact probes_fits hl (.inr (.inr ⟨h0, rfl⟩)) (fun c _ => by rw [hf]; show (c : Int) ≠ -1; omega)
end Go.Hm
namespace Go.Hm
open Go Go.Ab
theorem grant_waits {r : Row} {line : Int} {d : Ln} : (r.grant line d).1.waits = r.waits := by
  unfold Row.grant
  repeat' split
  all_goals rfl
theorem rest_waits {r : Row} {line : Int} {m : Ln} : (r.rest line m).1.waits = r.waits := by
  unfold Row.rest
  split
  · split
    · rfl
    · exact grant_waits
  · rfl
theorem heard_waits {r : Row} {n : Note} : (r.heard n).waits = r.waits := by
  unfold Row.heard
  repeat' split
  all_goals rfl
theorem get_waits {r : Row} {line : Int} {m : Ln} {n : Note} {w : Int} : (r.get line m n w).1.waits = r.waits := by
  have hu : (r.serve n w).unown.waits = r.waits := by unfold Row.unown; split <;> rfl
  unfold Row.get
  simp only
  split
  · unfold Row.getM; split
    · rfl
    · exact grant_waits
  · unfold Row.getS; split
    · exact hu
    · rw [grant_waits]; exact hu
theorem begun_waits {r : Row} {line : Int} {m : Ln} {n : Note} {j : Int → Int × Bool} : (r.begun line m n j).1.1.waits = r.waits := by
  unfold Row.begun
  split
  · rfl
  · split
    · split
      · exact get_waits
      · rfl
    · split <;> rfl
def C0 : Cfg := ⟨3, 2, 1, 1, 4, 2, 2⟩
theorem C0_ok : C0.Ok := by decide
/-- the law's own lists of requests go along -/
def OInv (H : Hom) (R : Nat → List Note) (i : Nat) : Prop := ∀ k, k < 4 → LInv k (H k).1 ∧ R k = (H k).1.waits.map Note.face ∧ (H k).1.waits.length ≤ i
theorem OInv.h {H : Hom} {R : Nat → List Note} {i : Nat} (h : OInv H R i) (N : Nat) (hN : i ≤ N) : HInv C0 H N := fun k hk => ⟨(h k hk).1.inv, Nat.le_trans (h k hk).2.2 hN⟩
theorem OInv.upd {H : Hom} {R : Nat → List Note} {i l : Nat} {x : Lin} {w : List Note} (h : OInv H R i) (h1 : LInv l x.1) (h2 : w = x.1.waits.map Note.face) (h3 : x.1.waits.length ≤ i + 1) : OInv (updA H l x) (updA R l w) (i + 1) := by
  intro k hk
  unfold updA
  by_cases e : k = l
  · subst e; simp only [if_true]; exact ⟨h1, h2, h3⟩
  · simp only [if_neg e]
    obtain ⟨a, b, c⟩ := h k hk
    exact ⟨a, b, by omega⟩
theorem OInv.same {H : Hom} {R : Nat → List Note} {i l : Nat} {x : Lin} (h : OInv H R i) (hl : l < 4) (h1 : LInv l x.1) (h2 : x.1.waits = (H l).1.waits) : OInv (updA H l x) R (i + 1) := by
  have := h.upd (x := x) (w := R l) h1 (by rw [h2]; exact (h l hl).2.1) (by rw [h2]; have := (h l hl).2.2; omega)
  rwa [show updA R l (R l) = R from updA_self] at this
theorem OInv.up {H : Hom} {R : Nat → List Note} {i : Nat} (h : OInv H R i) : OInv H R (i + 1) := fun k hk => ⟨(h k hk).1, (h k hk).2.1, by have := (h k hk).2.2; omega⟩
theorem take_order {H : Hom} {R : Nat → List Note} {i : Nat} {n : Note} (h : OInv H R i) :
    (((homTake C0 H n).2.2 = 0 ∧ (n.kind = 1 ∨ n.kind = 2 ∨ n.kind = 3)) → (0 ≤ n.line ∧ n.line < 4) ∧ OInv (homTake C0 H n).1 (updA R n.line.toNat (R n.line.toNat ++ [n])) (i + 1)) ∧
    (¬ ((homTake C0 H n).2.2 = 0 ∧ (n.kind = 1 ∨ n.kind = 2 ∨ n.kind = 3)) → OInv (homTake C0 H n).1 R (i + 1)) := by
  unfold homTake
  split
  · exact ⟨fun e => by simp at e, fun _ => h.up⟩
  · rename_i ht
    have ht : takes n.kind := by simpa using ht
    split
    · rename_i hr
      obtain ⟨hc, hl⟩ := hr
      have hl4 : 0 ≤ n.line ∧ n.line < 4 := hl
      have hc3 : 0 ≤ n.core ∧ n.core < 3 := hc
      obtain ⟨l, hnl⟩ := Int.eq_ofNat_of_zero_le hl4.1
      have e : n.line.toNat = l := by omega
      simp only [e]
      rw [hnl]
      obtain ⟨h1, h2, h3⟩ := h l (by omega)
      have hI := take_linv (x := H l) h1 ht hnl (by omega)
      constructor
      · intro he
        refine ⟨by omega, h.upd hI ?_ ?_⟩
        all_goals
          unfold Lin.take
          rw [if_neg (by omega), if_neg (by omega)]
          simp only [Row.wait]
        · rw [List.map_append, ← h2]
          congr 1
          simp [Note.face, show n.kind ≠ 0 by omega]
        · simp; omega
      · intro he
        refine h.same (by omega) hI ?_
        by_cases h4 : n.kind = 4
        · unfold Lin.take
          rw [if_pos h4]
          split <;> rfl
        · by_cases h5 : n.kind = 5
          · unfold Lin.take
            rw [if_neg h4, if_pos h5]
            split
            · rfl
            · simp only [Lin.reply, rest_waits, heard_waits]
          · exfalso
            apply he
            refine ⟨?_, by unfold takes at ht; omega⟩
            unfold Lin.take
            rw [if_neg h4, if_neg h5]
    · exact ⟨fun e => by simp at e, fun _ => h.up⟩
theorem sweep_order {H : Hom} {R : Nat → List Note} {i : Nat} {l : Int} (h : OInv H R i) :
    ((homSweep C0 H l).2 = 0 → (0 ≤ l ∧ l < 4) ∧ OInv (homSweep C0 H l).1 (updA R l.toNat (R l.toNat ++ [{ Note.zero with core := -1, line := l }])) (i + 1)) ∧ ((homSweep C0 H l).2 ≠ 0 → OInv (homSweep C0 H l).1 R (i + 1)) := by
  unfold homSweep
  split
  · rename_i hl
    have hl4 : 0 ≤ l ∧ l < 4 := hl
    obtain ⟨k, rfl⟩ := Int.eq_ofNat_of_zero_le hl4.1
    simp only [Int.toNat_natCast]
    obtain ⟨h1, h2, h3⟩ := h k (by omega)
    refine ⟨fun _ => ⟨hl4, h.upd ?_ ?_ ?_⟩, fun e => by simp at e⟩
    · exact wait_linv h1 rfl (by show (0 : Int) ≤ 0 ∧ (0 : Int) < 4; omega) (.inl rfl)
    · show _ = ((H k).1.waits ++ [sweepN k]).map Note.face
      rw [List.map_append, ← h2]; rfl
    · show ((H k).1.waits ++ [sweepN k]).length ≤ i + 1
      simp; omega
  · exact ⟨fun e => by simp at e, fun _ => h.up⟩
theorem begin_order {H : Hom} {R : Nat → List Note} {i : Nat} {l : Int} {j : Int → Int × Bool} (h : OInv H R i) :
    ((homBegin C0 H l j).2.2 ≠ 0 → (homBegin C0 H l j).2.1 = [] ∧ OInv (homBegin C0 H l j).1 R (i + 1) ∧ (homBusy C0 H l = true → (homBegin C0 H l j).2.2 = 16)) ∧
    ((homBegin C0 H l j).2.2 = 0 → (0 ≤ l ∧ l < 4) ∧ homBusy C0 H l = false ∧ ∃ n w, R l.toNat = n :: w ∧ OInv (homBegin C0 H l j).1 (updA R l.toNat w) (i + 1) ∧ (∀ x ∈ (homBegin C0 H l j).2.1, x.fits n (homBegin C0 H l j).2.1.length) ∧ ((homBegin C0 H l j).2.1 ≠ [] ∨ n.kind = 0)) := by
  unfold homBegin homBusy
  split
  · rename_i hl
    have hl4 : 0 ≤ l ∧ l < 4 := hl
    rw [decide_eq_true hl, Bool.true_and]
    obtain ⟨k, rfl⟩ := Int.eq_ofNat_of_zero_le hl4.1
    simp only [Int.toNat_natCast]
    obtain ⟨h1, h2, h3⟩ := h k (by omega)
    unfold Lin.begin
    split
    · rename_i hb
      exact ⟨fun _ => ⟨rfl, by rw [show updA H k (H k) = H from updA_self]; exact h.up, fun _ => rfl⟩, fun e => by simp at e⟩
    · rename_i hb
      cases hw : (H k).1.waits with
      | nil =>
        simp only
        exact ⟨fun _ => ⟨trivial, by rw [show updA H k (H k) = H from updA_self]; exact h.up, fun e => absurd e hb⟩, fun e => by simp at e⟩
      | cons n w =>
        simp only
        refine ⟨fun e => by simp at e, fun _ => ⟨hl4, by simpa using hb, n.face, w.map Note.face, by rw [h2, hw]; rfl, ?_⟩⟩
        have hn := h1.waits n (by rw [hw]; exact List.mem_cons_self)
        obtain ⟨a, b, c⟩ := begun_law (m := (H k).2) (j := j) (next_linv h1 hw) (show ((H k).1.next w).busy = false from (by simpa using hb : (H k).1.busy = false)) hn.1 hn.2.1 hn.2.2
        refine ⟨h.upd a ?_ ?_, b, c⟩
        · rw [begun_waits]; rfl
        · rw [begun_waits]
          show w.length ≤ i + 1
          rw [hw] at h3; simp at h3; omega
  · rename_i hl
    rw [decide_eq_false hl]
    exact ⟨fun _ => ⟨rfl, h.up, fun e => by simp at e⟩, fun e => by simp at e⟩
theorem sharersF_mem {r : Row} : ∀ (f i : Nat), (∀ c ∈ r.sharersF f i, r.sh c = true ∧ i ≤ c ∧ c < i + f) ∧ (r.sharersF f i).Pairwise (· < ·) := by
  intro f
  induction f with
  | zero => intro i; simp [Row.sharersF]
  | succ f ih =>
    intro i
    obtain ⟨h1, h2⟩ := ih (i + 1)
    unfold Row.sharersF
    split
    · rename_i hs
      refine ⟨fun c hc => ?_, List.pairwise_cons.2 ⟨fun c hc => by have := (h1 c hc).2; omega, h2⟩⟩
      rcases List.mem_cons.1 hc with rfl | hc
      · exact ⟨hs, by omega, by omega⟩
      · have := h1 c hc; exact ⟨this.1, by omega, by omega⟩
    · exact ⟨fun c hc => by have := h1 c hc; exact ⟨this.1, by omega, by omega⟩, h2⟩
theorem grant_len {r : Row} {line : Int} {d : Ln} : (r.grant line d).2.length ≤ 4 := by
  unfold Row.grant
  repeat' split
  all_goals simp
theorem probes_len {line st : Int} {l : List Nat} : (probes line st l).length = l.length := by simp [probes]
theorem get_len {r : Row} {line : Int} {m : Ln} {n : Note} {w : Int} : (r.get line m n w).2.length ≤ 4 := by
  unfold Row.get
  simp only
  split
  · unfold Row.getM; split
    · rw [probes_len]; exact holders_len
    · exact grant_len
  · unfold Row.getS; split
    · simp [probes_len]
    · exact grant_len
theorem begun_len {r : Row} {line : Int} {m : Ln} {n : Note} {j : Int → Int × Bool} : (r.begun line m n j).2.length ≤ 4 := by
  unfold Row.begun
  split
  · simp
  · split
    · split
      · exact get_len
      · simp
    · split
      · simp
      · rw [probes_len]; exact holders_len
theorem homBegin_len {C : Cfg} {H : Hom} {l : Int} {j : Int → Int × Bool} : (homBegin C H l j).2.1.length ≤ 4 := by
  unfold homBegin
  split
  · unfold Lin.begin
    split
    · simp
    · split
      · simp
      · exact begun_len
  · simp
end Go.Hm
end
section
namespace Go.Proofs.YtagcnlaofkfpjaaDoor
open Go Go.Ab Go.Hm
attribute [local irreducible] thn Br ld1 ldN stV alc alcAt alcS alcSAt resv padd nilV extV part1 partN lenS lenT biI biT biB biP biS biF biE biA unV idxS idxA pickV appV copyV clearV slS slA slT mkS blkOf at1 atN atS convI convS minV maxV Cl OkF OkR EndX endV beginV defersOf setLoop closeMarks
variable {G : Bg} {h : AH} {L L' : List HP}

def rowR (b o : Nat) (r : Row) : HP := fun q => ∃ a c, star [seg b o (r.enc a c), slc 9 38 a c (r.waits.length, encNs r.waits)] q
theorem rowR_open {b o : Nat} {r : Row} (hs : Hs G h (rowR b o r :: L)) : ∃ a c, Hs G h (seg b o (r.enc a c) :: slc 9 38 a c (r.waits.length, encNs r.waits) :: L) := by
  obtain ⟨q, q2, ⟨a, c, hq⟩, h2, h3, h4, h5⟩ := hs.fst
  exact ⟨a, c, hs.base, hs.old, hs.wf, hs.fr, _, (star_append (L := [_, _])).2 ⟨q, q2, hq, h2, h3, rfl⟩, (Res.in_add h3).2 ⟨h4, h5⟩⟩
theorem rowR_close {b o : Nat} (r : Row) {a : Option Addr} {c : Nat} (hs : Hs G h (seg b o (r.enc a c) :: slc 9 38 a c (r.waits.length, encNs r.waits) :: L)) : Hs G h (rowR b o r :: L) :=
  Hs.join (A := [_, _]) hs fun _ hq => ⟨a, c, hq⟩

/-! moesi -/
theorem is_ok {x : Int} {Q : Value → AH → Prop} (hk : Q (.bool (decide (0 ≤ x ∧ x < 5))) h) : Cl Pr K 59 [I x] h Q := by
  refine c59 (b59_0 ?_)
  refine r_geI (r_br (fun h1 => r_ltI ?_) (fun h1 => ?_))
  · rw [show decide (x < 5) = decide (0 ≤ x ∧ x < 5) from decide_eq_decide.2 (by omega)]; exact hk
  · rw [show false = decide (0 ≤ x ∧ x < 5) from (decide_eq_false (by omega)).symm]; exact hk
theorem valid_ok {x : Int} {Q : Value → AH → Prop} (hk : Q (.bool (valid x)) h) : Cl Pr K 46 [I x] h Q := by
  refine c46 (b46_0 (is_ok (r_br (fun h1 => r_neI ?_) (fun h1 => ?_))))
  · rw [show decide (x ≠ 0) = valid x from by simp only [valid, decide_eq_true h1, Bool.true_and]]; exact hk
  · rw [show false = valid x from by simp only [valid, decide_eq_false h1, Bool.false_and]]; exact hk

/-! rows -/
theorem free_ok {b o : Nat} {r : Row} {Q : Value → AH → Prop} (hs : Hs G h L) [m : Has (rowR b o) L r L'] (hk : ∀ h', Hs G h' (rowR b o r.free :: L') → Q (.tuple ⟨[]⟩) h') : Cl Pr K 29 [pt b o 0] h Q := by
  obtain ⟨a, c, hs⟩ := rowR_open (m.of hs)
  refine c29 (b29_0 ?_)
  repeat' first
    | refine r_padd ?_
    | refine r_nilP ?_
    | refine r_lenS ?_
    | refine r_ext rfl ?_
    | refine r_part1 rfl ?_
    | refine r_partN rfl rfl ?_
    | refine r_ltI ?_
    | refine r_leI ?_
    | refine r_gtI ?_
    | refine r_geI ?_
    | refine r_eqI ?_
    | refine r_neI ?_
    | refine r_ptNe ?_
    | refine r_ptEq ?_
    | refine r_not ?_
    | refine r_brt ?_
    | refine r_brf ?_
    | refine r_brn ?_
    | refine r_ld hs rfl ?_
    | refine r_ldN hs (by decide) rfl rfl ?_
    | (refine r_stW hs rfl rfl rfl rfl ?_; intro h hs)
    | (refine r_sto hs rfl rfl rfl rfl ?_; intro h hs)
    | (refine r_st hs rfl rfl rfl rfl rfl ?_; intro h hs)
    | (refine r_new hs ?_; intro p h hs)
    | (refine r_bx hs ?_; intro p h hs)
    | (refine r_box hs rfl ?_; intro p h hs)
    | (refine r_resv hs ?_; intro r h hs)
    | (refine r_newAt hs rfl rfl ?_; intro p h hs)
    | (refine r_newAt0 hs rfl rfl ?_; intro p h hs)
    | (refine r_bxAt hs rfl rfl ?_; intro p h hs)
    | (refine r_bxAt0 hs rfl rfl ?_; intro p h hs)
    | (refine r_boxAt hs rfl rfl rfl ?_; intro p h hs)
    | (refine r_boxAt0 hs rfl rfl rfl ?_; intro p h hs)
    | (refine r_newS hs rfl rfl rfl ?_; intro a h hs)
    | (refine r_newSAt hs rfl rfl rfl rfl rfl ?_; intro a h hs)
    | (refine r_newSAt0 hs rfl rfl rfl rfl rfl ?_; intro a h hs)
    | refine r_addI (by omega) ?_
    | refine r_subI (by omega) ?_
    | refine r_brT (by omega) ?_
    | refine r_brF (by omega) ?_
    | refine r_nilF ?_
    | refine r_fill rfl ?_
    | exact veq_P
    | exact veq_I
    | exact veq_B
    | exact veq_S
    | refine r_fl ?_ ?_
    | (refine r_marks hs ?_; intro d h hs)
    | (refine r_setv hs ?_; intro h hs)
    | (refine r_beginv hs ?_; intro h hs)
    | refine r_defersv hs ?_
    | refine r_cm0 ?_
    | (refine r_cm1 hs ?_; intro h hs)
  exact hk _ (rowR_close r.free (a := a) (c := c) hs)
theorem leave_eq {r : Row} {x : Int} (h : r.owner = x) : r.leave x = { r with sh := updB r.sh x false, owner := -1 } := by simp only [Row.leave, if_pos h]
theorem leave_ne {r : Row} {x : Int} (h : ¬ r.owner = x) : r.leave x = { r with sh := updB r.sh x false } := by simp only [Row.leave, if_neg h]
theorem leave_ok {b o : Nat} {r : Row} {x : Int} {Q : Value → AH → Prop} (hs : Hs G h L) [m : Has (rowR b o) L r L'] (hx : 0 ≤ x ∧ x < 4) (hk : ∀ h', Hs G h' (rowR b o (r.leave x) :: L') → Q (.tuple ⟨[]⟩) h') : Cl Pr K 32 [pt b o 0, I x] h Q := by
  obtain ⟨a, c, hs⟩ := rowR_open (m.of hs)
  refine c32 (b32_0 ?_)
  have hx4 : x = 0 ∨ x = 1 ∨ x = 2 ∨ x = 3 := by omega
  rcases hx4 with rfl | rfl | rfl | rfl
  all_goals
    refine r_nilP (r_padd (r_idxA (by decide) (by decide) ?_))
    repeat' first
      | refine r_padd ?_
      | refine r_nilP ?_
      | refine r_lenS ?_
      | refine r_ext rfl ?_
      | refine r_part1 rfl ?_
      | refine r_partN rfl rfl ?_
      | refine r_ltI ?_
      | refine r_leI ?_
      | refine r_gtI ?_
      | refine r_geI ?_
      | refine r_eqI ?_
      | refine r_neI ?_
      | refine r_ptNe ?_
      | refine r_ptEq ?_
      | refine r_not ?_
      | refine r_brt ?_
      | refine r_brf ?_
      | refine r_brn ?_
      | refine r_ld hs rfl ?_
      | refine r_ldN hs (by decide) rfl rfl ?_
      | (refine r_stW hs rfl rfl rfl rfl ?_; intro h hs)
      | (refine r_sto hs rfl rfl rfl rfl ?_; intro h hs)
      | (refine r_st hs rfl rfl rfl rfl rfl ?_; intro h hs)
      | (refine r_new hs ?_; intro p h hs)
      | (refine r_bx hs ?_; intro p h hs)
      | (refine r_box hs rfl ?_; intro p h hs)
      | (refine r_resv hs ?_; intro r h hs)
      | (refine r_newAt hs rfl rfl ?_; intro p h hs)
      | (refine r_newAt0 hs rfl rfl ?_; intro p h hs)
      | (refine r_bxAt hs rfl rfl ?_; intro p h hs)
      | (refine r_bxAt0 hs rfl rfl ?_; intro p h hs)
      | (refine r_boxAt hs rfl rfl rfl ?_; intro p h hs)
      | (refine r_boxAt0 hs rfl rfl rfl ?_; intro p h hs)
      | (refine r_newS hs rfl rfl rfl ?_; intro a h hs)
      | (refine r_newSAt hs rfl rfl rfl rfl rfl ?_; intro a h hs)
      | (refine r_newSAt0 hs rfl rfl rfl rfl rfl ?_; intro a h hs)
      | refine r_addI (by omega) ?_
      | refine r_subI (by omega) ?_
      | refine r_brT (by omega) ?_
      | refine r_brF (by omega) ?_
      | refine r_nilF ?_
      | refine r_fill rfl ?_
      | exact veq_P
      | exact veq_I
      | exact veq_B
      | exact veq_S
      | refine r_fl ?_ ?_
      | (refine r_marks hs ?_; intro d h hs)
      | (refine r_setv hs ?_; intro h hs)
      | (refine r_beginv hs ?_; intro h hs)
      | refine r_defersv hs ?_
      | refine r_cm0 ?_
      | (refine r_cm1 hs ?_; intro h hs)
      | (refine r_br (fun hc => ?_) (fun hc => ?_))
      | (refine r_brb (fun hc => ?_) (fun hc => ?_))
    · rw [leave_eq hc] at hk
      exact hk _ (rowR_close _ (a := a) (c := c) hs)
    · rw [leave_ne hc] at hk
      exact hk _ (rowR_close _ (a := a) (c := c) hs)
theorem at4 {f : Nat → Bool} {i : Nat} (hi : i < 4) {k : Value → Prop} (hk : k (.bool (f i))) : thn (at1 4 1 (.agg ⟨[.bool (f 0), .bool (f 1), .bool (f 2), .bool (f 3)]⟩) (I i)) k := by
  refine r_some ?_ hk
  have : i = 0 ∨ i = 1 ∨ i = 2 ∨ i = 3 := by omega
  rcases this with rfl | rfl | rfl | rfl <;> simp [at1]
theorem first_loop {b o : Nat} {r : Row} {x : Int} {a : Option Addr} {c : Nat} {Q : Value → AH → Prop} (hs : Hs G h (seg b o (r.enc a c) :: L)) : ∀ (f i : Nat) (t : Value), i + f = 4 → Q (I (r.firstF x f i)) h →
    A35_1 Q (pt b o 0) (I x) (I (-1)) (.agg ⟨[.bool (r.sh 0), .bool (r.sh 1), .bool (r.sh 2), .bool (r.sh 3)]⟩) (I i) t h := by
  intro f
  induction f with
  | zero =>
    intro i t hi hq
    refine b35_1 (r_ltI (r_brF (by omega) ?_))
    exact hq
  | succ f ih =>
    intro i t hi hq
    refine b35_1 (r_ltI (r_brT (by omega) (b35_2 (at4 (by omega) ?_))))
    have next : ∀ t, r.holds x i = false → A35_3 Q (pt b o 0) (I x) (I (-1)) (I i) (.agg ⟨[.bool (r.sh 0), .bool (r.sh 1), .bool (r.sh 2), .bool (r.sh 3)]⟩) (I i) t h := fun t hh => by
      refine b35_3 (r_addI (by omega) (ih (i + 1) _ (by omega) ?_))
      simpa [Row.firstF, hh] using hq
    refine r_eqI (r_br (fun hc => next _ ?_) (fun hc => b35_4 (r_brb (fun h1 => b35_5 ?_) (fun h1 => b35_6 ?_))))
    · exact holdsN1 hc
    · rw [h1]
      refine r_brt (b35_7 ?_)
      have : r.holds x i = true := holds1 hc h1
      rw [Row.firstF, if_pos this] at hq; exact hq
    · repeat' first
        | refine r_padd ?_
        | refine r_nilP ?_
        | refine r_lenS ?_
        | refine r_ext rfl ?_
        | refine r_part1 rfl ?_
        | refine r_partN rfl rfl ?_
        | refine r_ltI ?_
        | refine r_leI ?_
        | refine r_gtI ?_
        | refine r_geI ?_
        | refine r_eqI ?_
        | refine r_neI ?_
        | refine r_ptNe ?_
        | refine r_ptEq ?_
        | refine r_not ?_
        | refine r_brt ?_
        | refine r_brf ?_
        | refine r_brn ?_
        | refine r_ld hs rfl ?_
        | refine r_ldN hs (by decide) rfl rfl ?_
        | (refine r_stW hs rfl rfl rfl rfl ?_; intro h hs)
        | (refine r_sto hs rfl rfl rfl rfl ?_; intro h hs)
        | (refine r_st hs rfl rfl rfl rfl rfl ?_; intro h hs)
        | (refine r_new hs ?_; intro p h hs)
        | (refine r_bx hs ?_; intro p h hs)
        | (refine r_box hs rfl ?_; intro p h hs)
        | (refine r_resv hs ?_; intro r h hs)
        | (refine r_newAt hs rfl rfl ?_; intro p h hs)
        | (refine r_newAt0 hs rfl rfl ?_; intro p h hs)
        | (refine r_bxAt hs rfl rfl ?_; intro p h hs)
        | (refine r_bxAt0 hs rfl rfl ?_; intro p h hs)
        | (refine r_boxAt hs rfl rfl rfl ?_; intro p h hs)
        | (refine r_boxAt0 hs rfl rfl rfl ?_; intro p h hs)
        | (refine r_newS hs rfl rfl rfl ?_; intro a h hs)
        | (refine r_newSAt hs rfl rfl rfl rfl rfl ?_; intro a h hs)
        | (refine r_newSAt0 hs rfl rfl rfl rfl rfl ?_; intro a h hs)
        | refine r_addI (by omega) ?_
        | refine r_subI (by omega) ?_
        | refine r_brT (by omega) ?_
        | refine r_brF (by omega) ?_
        | refine r_nilF ?_
        | refine r_fill rfl ?_
        | exact veq_P
        | exact veq_I
        | exact veq_B
        | exact veq_S
        | refine r_fl ?_ ?_
        | (refine r_marks hs ?_; intro d h hs)
        | (refine r_setv hs ?_; intro h hs)
        | (refine r_beginv hs ?_; intro h hs)
        | refine r_defersv hs ?_
        | refine r_cm0 ?_
        | (refine r_cm1 hs ?_; intro h hs)
      refine r_br (fun h2 => b35_7 ?_) (fun h2 => next _ ?_)
      · have : r.holds x i = true := holds2 hc h2
        rw [Row.firstF, if_pos this] at hq; exact hq
      · exact holdsN2 h1 h2
theorem first_ok {b o : Nat} {r : Row} {x : Int} {Q : Value → AH → Prop} (hs : Hs G h L) [m : Has (rowR b o) L r L'] (hk : Hs G h (rowR b o r :: L') → Q (I (r.first x)) h) : Cl Pr K 35 [pt b o 0, I x] h Q := by
  have hk := hk (m.of hs)
  obtain ⟨a, c, hs⟩ := rowR_open (m.of hs)
  refine c35 (b35_0 ?_)
  repeat' first
    | refine r_padd ?_
    | refine r_nilP ?_
    | refine r_lenS ?_
    | refine r_ext rfl ?_
    | refine r_part1 rfl ?_
    | refine r_partN rfl rfl ?_
    | refine r_ltI ?_
    | refine r_leI ?_
    | refine r_gtI ?_
    | refine r_geI ?_
    | refine r_eqI ?_
    | refine r_neI ?_
    | refine r_ptNe ?_
    | refine r_ptEq ?_
    | refine r_not ?_
    | refine r_brt ?_
    | refine r_brf ?_
    | refine r_brn ?_
    | refine r_ld hs rfl ?_
    | refine r_ldN hs (by decide) rfl rfl ?_
    | (refine r_stW hs rfl rfl rfl rfl ?_; intro h hs)
    | (refine r_sto hs rfl rfl rfl rfl ?_; intro h hs)
    | (refine r_st hs rfl rfl rfl rfl rfl ?_; intro h hs)
    | (refine r_new hs ?_; intro p h hs)
    | (refine r_bx hs ?_; intro p h hs)
    | (refine r_box hs rfl ?_; intro p h hs)
    | (refine r_resv hs ?_; intro r h hs)
    | (refine r_newAt hs rfl rfl ?_; intro p h hs)
    | (refine r_newAt0 hs rfl rfl ?_; intro p h hs)
    | (refine r_bxAt hs rfl rfl ?_; intro p h hs)
    | (refine r_bxAt0 hs rfl rfl ?_; intro p h hs)
    | (refine r_boxAt hs rfl rfl rfl ?_; intro p h hs)
    | (refine r_boxAt0 hs rfl rfl rfl ?_; intro p h hs)
    | (refine r_newS hs rfl rfl rfl ?_; intro a h hs)
    | (refine r_newSAt hs rfl rfl rfl rfl rfl ?_; intro a h hs)
    | (refine r_newSAt0 hs rfl rfl rfl rfl rfl ?_; intro a h hs)
    | refine r_addI (by omega) ?_
    | refine r_subI (by omega) ?_
    | refine r_brT (by omega) ?_
    | refine r_brF (by omega) ?_
    | refine r_nilF ?_
    | refine r_fill rfl ?_
    | exact veq_P
    | exact veq_I
    | exact veq_B
    | exact veq_S
    | refine r_fl ?_ ?_
    | (refine r_marks hs ?_; intro d h hs)
    | (refine r_setv hs ?_; intro h hs)
    | (refine r_beginv hs ?_; intro h hs)
    | refine r_defersv hs ?_
    | refine r_cm0 ?_
    | (refine r_cm1 hs ?_; intro h hs)
  exact first_loop hs 4 0 _ rfl hk

/-! what is ranged over: the holders of a row -/
def rowA (b o : Nat) (r : Row) : HP := seg b o r.encA
def rowB (b o : Nat) (r : Row) : HP := exH fun x : Option Addr × Nat => sp [seg b (o + 5) (r.encB x.1 x.2), slc 9 38 x.1 x.2 (r.waits.length, encNs r.waits)]
theorem rowR_split {b o : Nat} {r : Row} (hs : Hs G h (rowR b o r :: L)) : Hs G h (rowA b o r :: rowB b o r :: L) := by
  obtain ⟨a, c, hs⟩ := rowR_open hs
  have hs1 : Hs G h (seg b (o + 5) (r.encB a c) :: slc 9 38 a c (r.waits.length, encNs r.waits) :: seg b o r.encA :: L) := (hs.split (c := r.encA) (d := r.encB a c)).perm (by
    exact (List.Perm.swap _ _ _).trans ((List.Perm.swap _ _ _).cons _))
  exact (Hs.exI (A := fun x : Option Addr × Nat => sp [seg b (o + 5) (r.encB x.1 x.2), slc 9 38 x.1 x.2 (r.waits.length, encNs r.waits)]) (a, c) (Hs.pack (A := [_, _]) hs1)).perm (List.Perm.swap _ _ _)
theorem rowB_open {b o : Nat} {r : Row} (hs : Hs G h (rowB b o r :: L)) : ∃ a c, Hs G h (seg b (o + 5) (r.encB a c) :: slc 9 38 a c (r.waits.length, encNs r.waits) :: L) := by
  obtain ⟨⟨a, c⟩, hs⟩ := hs.exE
  exact ⟨a, c, hs.unpack⟩
theorem rowB_close {b o : Nat} (r : Row) {a : Option Addr} {c : Nat} (hs : Hs G h (seg b (o + 5) (r.encB a c) :: slc 9 38 a c (r.waits.length, encNs r.waits) :: L)) : Hs G h (rowB b o r :: L) :=
  Hs.exI (A := fun x : Option Addr × Nat => sp [seg b (o + 5) (r.encB x.1 x.2), slc 9 38 x.1 x.2 (r.waits.length, encNs r.waits)]) (a, c) (Hs.pack (A := [_, _]) hs)
theorem rowR_join {b o : Nat} {r : Row} (hs : Hs G h (rowA b o r :: rowB b o r :: L)) : Hs G h (rowR b o r :: L) := by
  obtain ⟨a, c, hs⟩ := rowB_open (hs.perm (List.Perm.swap _ _ _))
  refine rowR_close r (a := a) (c := c) ?_
  rw [Row.enc_split]
  exact Hs.unsplit (c := r.encA) (hs.perm ((List.Perm.swap _ _ _).cons _ |>.trans (List.Perm.swap _ _ _))) rfl
def hold2 (b o p q : Nat) (x : Int) (r : Row) : HP := sp [rowA b o r, seg p 0 [pt b o 0], seg q 0 [I x]]
theorem holders_ok {b o : Nat} {x : Int} {Q : Value → AH → Prop} (hs : Hs G h L) (hk : ∀ p q h', Hs G h' (seg p 0 [pt b o 0] :: seg q 0 [I x] :: L) → Q (.func (.func 50) #[] #[pt p 0 0, pt q 0 0]) h') : Cl Pr K 37 [pt b o 0, I x] h Q := by
  refine c37 (b37_0 ?_)
  repeat' first
    | refine r_padd ?_
    | refine r_nilP ?_
    | refine r_lenS ?_
    | refine r_ext rfl ?_
    | refine r_part1 rfl ?_
    | refine r_partN rfl rfl ?_
    | refine r_ltI ?_
    | refine r_leI ?_
    | refine r_gtI ?_
    | refine r_geI ?_
    | refine r_eqI ?_
    | refine r_neI ?_
    | refine r_ptNe ?_
    | refine r_ptEq ?_
    | refine r_not ?_
    | refine r_brt ?_
    | refine r_brf ?_
    | refine r_brn ?_
    | refine r_ld hs rfl ?_
    | refine r_ldN hs (by decide) rfl rfl ?_
    | (refine r_stW hs rfl rfl rfl rfl ?_; intro h hs)
    | (refine r_sto hs rfl rfl rfl rfl ?_; intro h hs)
    | (refine r_st hs rfl rfl rfl rfl rfl ?_; intro h hs)
    | (refine r_new hs ?_; intro p h hs)
    | (refine r_bx hs ?_; intro p h hs)
    | (refine r_box hs rfl ?_; intro p h hs)
    | (refine r_resv hs ?_; intro r h hs)
    | (refine r_newAt hs rfl rfl ?_; intro p h hs)
    | (refine r_newAt0 hs rfl rfl ?_; intro p h hs)
    | (refine r_bxAt hs rfl rfl ?_; intro p h hs)
    | (refine r_bxAt0 hs rfl rfl ?_; intro p h hs)
    | (refine r_boxAt hs rfl rfl rfl ?_; intro p h hs)
    | (refine r_boxAt0 hs rfl rfl rfl ?_; intro p h hs)
    | (refine r_newS hs rfl rfl rfl ?_; intro a h hs)
    | (refine r_newSAt hs rfl rfl rfl rfl rfl ?_; intro a h hs)
    | (refine r_newSAt0 hs rfl rfl rfl rfl rfl ?_; intro a h hs)
    | refine r_addI (by omega) ?_
    | refine r_subI (by omega) ?_
    | refine r_brT (by omega) ?_
    | refine r_brF (by omega) ?_
    | refine r_nilF ?_
    | refine r_fill rfl ?_
    | exact veq_P
    | exact veq_I
    | exact veq_B
    | exact veq_S
    | refine r_fl ?_ ?_
    | (refine r_marks hs ?_; intro d h hs)
    | (refine r_setv hs ?_; intro h hs)
    | (refine r_beginv hs ?_; intro h hs)
    | refine r_defersv hs ?_
    | refine r_cm0 ?_
    | (refine r_cm1 hs ?_; intro h hs)
  exact hk _ _ _ (hs.perm (List.Perm.swap _ _ _))
theorem holders_loop {b o p q : Nat} {r : Row} {x : Int} {I' : List (List Value) → HP} {J : HP} {y : Value} {Q : Value → AH → Prop}
    (hy : ∀ z rest h M, Hs G h (I' (z :: rest) :: M) → OkF Pr K y z h fun v h' => (v = .bool true ∧ Hs G h' (I' rest :: M)) ∨ (v = .bool false ∧ Hs G h' (J :: M)))
    (h1 : ∀ v h', Hs G h' (hold2 b o p q x r :: I' [] :: L) → Q v h') (h2 : ∀ v h', Hs G h' (hold2 b o p q x r :: J :: L) → Q v h') :
    ∀ (f i : Nat) (h : AH), i + f = 4 → Hs G h (hold2 b o p q x r :: I' ((r.holdersF x f i).map fun (c : Nat) => [I c]) :: L) →
      A50_1 Q y (pt p 0 0) (pt q 0 0) (.agg ⟨[.bool (r.sh 0), .bool (r.sh 1), .bool (r.sh 2), .bool (r.sh 3)]⟩) (I i) h := by
  intro f
  induction f with
  | zero =>
    intro i h hi hs
    refine b50_1 (r_ltI (r_brF (by omega) ?_))
    exact h1 _ _ hs
  | succ f ih =>
    intro i h hi hs
    refine b50_1 (r_ltI (r_brT (by omega) (b50_2 (at4 (by omega) ?_))))
    have hs0 := hs
    have hs := hs.unpack
    have yes : r.holds x i = true → OkF Pr K y [I i] h fun v h' => (v = .bool true ∧ Hs G h' (hold2 b o p q x r :: I' ((r.holdersF x f (i + 1)).map fun (c : Nat) => [I c]) :: L)) ∨ (v = .bool false ∧ Hs G h' (hold2 b o p q x r :: J :: L)) := fun hh => by
      rw [Row.holdersF, if_pos hh] at hs0
      refine (hy _ _ h _ (hs0.perm (List.Perm.swap _ _ _))).mono fun v h' hv => ?_
      exact hv.imp (fun e => ⟨e.1, e.2.perm (List.Perm.swap _ _ _)⟩) (fun e => ⟨e.1, e.2.perm (List.Perm.swap _ _ _)⟩)
    have no : r.holds x i = false → Hs G h (hold2 b o p q x r :: I' ((r.holdersF x f (i + 1)).map fun (c : Nat) => [I c]) :: L) := fun hh => by
      simpa only [Row.holdersF, hh, Bool.false_eq_true, if_false] using hs0
    refine r_ld hs rfl (r_eqI (r_br (fun hc => r_addI (by omega) (ih (i + 1) h (by omega) (no (holdsN1 hc)))) (fun hc => r_not (r_brn (r_brb (fun h3 => ?_) (fun h3 => ?_))))))
    · refine (yes (holds1 hc h3)).mono fun v h' hv => ?_
      rcases hv with ⟨rfl, hs'⟩ | ⟨rfl, hs'⟩
      · exact r_not (r_brf (b50_3 (r_addI (by omega) (ih (i + 1) h' (by omega) hs'))))
      · exact r_not (r_brt (h2 _ _ hs'))
    · have hsr : Hs G h (seg b o r.encA :: _) := hs
      refine r_ld hs rfl (r_nilP (r_padd (r_ld hsr rfl (r_neI (r_br (fun h4 => ?_) (fun h4 => ?_))))))
      · exact b50_3 (r_addI (by omega) (ih (i + 1) h (by omega) (no (holdsN2 h3 h4))))
      · refine b50_4 ((yes (holds2 hc (by simpa using h4))).mono fun v h' hv => ?_)
        rcases hv with ⟨rfl, hs'⟩ | ⟨rfl, hs'⟩
        · exact r_not (r_brf (b50_3 (r_addI (by omega) (ih (i + 1) h' (by omega) hs'))))
        · exact r_not (r_brt (h2 _ _ hs'))
theorem holders_y {b o p q : Nat} {r : Row} {x : Int} : Yds Pr K G 50 [] [pt p 0 0, pt q 0 0] (hold2 b o p q x r) ((r.holders x).map fun (c : Nat) => [I c]) := by
  intro I' J y L h Q hs hy h1 h2
  refine c50 (b50_0 ?_)
  have hs2 := hs.unpack
  have hsr : Hs G h (seg b o r.encA :: _) := hs2
  refine r_ld hs2 rfl (r_nilP (r_padd (r_ldN hsr (by decide) rfl rfl ?_)))
  exact holders_loop hy h1 h2 4 0 h rfl hs

end Go.Proofs.YtagcnlaofkfpjaaDoor
end
section
namespace Go.Proofs.YtagcnlaofkfpjaaDoor
open Go Go.Ab Go.Hm
attribute [local irreducible] thn Br ld1 ldN stV alc alcAt alcS alcSAt resv padd nilV extV part1 partN lenS lenT biI biT biB biP biS biF biE biA unV idxS idxA pickV appV copyV clearV slS slA slT mkS blkOf at1 atN atS convI convS minV maxV Cl OkF OkR EndX endV beginV defersOf setLoop closeMarks
variable {G : Bg} {h : AH} {L L' : List HP}

/-! probe -/
def notesR (v : Value) (l : List Note) : HP := exH fun x : Option Addr × Nat => sp [puH (v = .slice x.1 l.length x.2), slc 9 38 x.1 x.2 (l.length, encNs l)]
theorem notesI {a : Option Addr} {c n : Nat} {l : List Note} {cs : List Value} (hn : n = l.length) (hc : cs = encNs l) (hs : Hs G h (slc 9 38 a c (n, cs) :: L)) : Hs G h (notesR (.slice a n c) l :: L) := by
  subst hn; subst hc
  exact Hs.exI (A := fun x : Option Addr × Nat => sp [puH (Value.slice a l.length c = Value.slice x.1 l.length x.2), slc 9 38 x.1 x.2 (l.length, encNs l)]) (a, c) (Hs.pack (A := [_, _]) (Hs.puI rfl hs))
theorem notesE {v : Value} {l : List Note} (hs : Hs G h (notesR v l :: L)) : ∃ a c, v = .slice a l.length c ∧ Hs G h (slc 9 38 a c (l.length, encNs l) :: L) := by
  obtain ⟨⟨a, c⟩, hs⟩ := hs.exE
  obtain ⟨hv, hs⟩ := Hs.puE hs.unpack
  exact ⟨a, c, hv, hs⟩
theorem probes_snoc {line state : Int} {l : List Nat} {i : Nat} : probes line state (l ++ [i]) = probes line state l ++ [⟨11, i, line, 0, state, 0, 0, false, 0⟩] := by simp [probes, Note.zero]
theorem updB_n {f : Nat → Bool} {i j : Nat} {v : Bool} : updB f i v j = if j = i then v else f j := by
  simp only [updB, Int.ofNat_inj]
theorem askAll_snoc {r : Row} {l : List Nat} {i : Nat} : r.askAll (l ++ [i]) = { r.askAll l with asked := updB (r.askAll l).asked i true } := by
  simp only [Row.askAll, Row.mk.injEq, true_and, and_true]
  funext j
  simp only [updB_n, List.contains_append]
  by_cases h : j = i
  · subst h; simp
  · simp [h]
theorem r_stAsk {b o i : Nat} {r : Row} {a : Option Addr} {c : Nat} {v : Bool} {k : AH → Prop} (hs : Hs G h L) [m : Has (seg b (o + 5)) L (r.encB a c) L'] (hi : i < 4) (hk : ∀ h', Hs G h' (seg b (o + 5) (({ r with asked := updB r.asked i v } : Row).encB a c) :: L') → k h') : thn (stV h 1 (pt b o (17 + (i : Int).toNat * 1)) (.bool v)) k := by
  have hs := m.of hs
  rw [pt_at (m := 5) (by omega)]
  have : i = 0 ∨ i = 1 ∨ i = 2 ∨ i = 3 := by omega
  rcases this with rfl | rfl | rfl | rfl
  all_goals
    refine r_sto hs rfl rfl rfl rfl ?_
    exact hk
def prC (b o p2 p5 p8 p10 : Nat) (line state : Int) (r : Row) (xs : List Nat) (e : Nat → Value) (d l : Nat) (rest : List (List Value)) (done : List Nat) (a : Option Addr) (c : Nat) : List HP :=
  [puH (rest = (xs.drop done.length).map fun (c : Nat) => [I c]), puH (xs.take done.length = done),
    lpT Pr 36 (dcd 58) 26 e d l (.ready, none), seg p2 0 [pt b o 0], seg p5 0 [I line], seg p8 0 [I state], rowB b o (r.askAll done),
    seg p10 0 [.slice a done.length c], slc 9 38 a c (done.length, encNs (probes line state done))]
def prI (b o p2 p5 p8 p10 : Nat) (line state : Int) (r : Row) (xs : List Nat) (e : Nat → Value) (d l : Nat) (rest : List (List Value)) : HP :=
  exH fun x : List Nat × Option Addr × Nat => sp (prC b o p2 p5 p8 p10 line state r xs e d l rest x.1 x.2.1 x.2.2)
theorem prIn {b o p2 p5 p8 p10 : Nat} {line state : Int} {r : Row} {xs : List Nat} {e : Nat → Value} {d l : Nat} {rest : List (List Value)} (done : List Nat) (a : Option Addr) (c : Nat) (h1 : rest = (xs.drop done.length).map fun (c : Nat) => [I c]) (h2 : xs.take done.length = done)
    (hs : Hs G h (sp ((prC b o p2 p5 p8 p10 line state r xs e d l rest done a c).drop 2) :: L)) : Hs G h (prI b o p2 p5 p8 p10 line state r xs e d l rest :: L) :=
  Hs.exI (done, a, c) (sp_pu h1 (sp_pu h2 hs))
theorem prOut {b o p2 p5 p8 p10 : Nat} {line state : Int} {r : Row} {xs : List Nat} {e : Nat → Value} {d l : Nat} {rest : List (List Value)} (hs : Hs G h (prI b o p2 p5 p8 p10 line state r xs e d l rest :: L)) : ∃ done a c, (rest = (xs.drop done.length).map fun (c : Nat) => [I c]) ∧ xs.take done.length = done ∧
    Hs G h (lpT Pr 36 (dcd 58) 26 e d l (.ready, none) :: seg p2 0 [pt b o 0] :: seg p5 0 [I line] :: seg p8 0 [I state] :: rowB b o (r.askAll done) :: seg p10 0 [.slice a done.length c] :: slc 9 38 a c (done.length, encNs (probes line state done)) :: L) := by
  obtain ⟨⟨done, a, c⟩, hs⟩ := Hs.exE hs
  obtain ⟨h1, hs⟩ := sp_puE hs
  obtain ⟨h2, hs⟩ := sp_puE hs
  exact ⟨done, a, c, h1, h2, hs.unpack⟩
theorem probe_ok {b o : Nat} {line state : Int} {r : Row} {g : FuncId} {caps : List Value} {A : HP} {xs : List Nat} {Q : Value → AH → Prop} (hy : Yds Pr K G g [] caps A (xs.map fun (c : Nat) => [I c])) (hx : ∀ c ∈ xs, c < 4) (hxl : xs.length ≤ 4) (hg : callable Pr g = true)
    (hs : Hs G h (A :: rowB b o r :: L)) (hk : ∀ v h', Hs G h' (notesR v (probes line state xs) :: A :: rowB b o (r.askAll xs) :: L) → Q v h') :
    Cl Pr K 36 [pt b o 0, I line, I state, .func (.func g) #[] ⟨caps⟩] h Q := by
  refine c36 (b36_0 ?_)
  refine r_bx hs fun p2 h hs => r_bx hs fun p5 h hs => r_bx hs fun p8 h hs => r_new hs fun p10 h hs => r_marks hs fun d h hs => ?_
  intro e he
  refine r_loop hs fun l h hs => ?_
  refine r_okR hg ?_
  have hs := slc_nil (W := 9) (e := 38) hs
  have e0 : r.askAll [] = r := by simp [Row.askAll]
  have hst : Hs G h (A :: prI b o p2 p5 p8 p10 line state r xs e d l (xs.map fun (c : Nat) => [I c]) :: mk d () :: L) := by
    refine Hs.at2 (prIn [] none 0 rfl rfl ?_)
    rw [← e0] at hs
    simp only [prC, List.drop_succ_cons, List.drop_zero, List.length_nil, probes, List.map_nil, encNs_nil]
    exact hs.to
  refine hy _ (puH False) _ _ h _ hst ?_ ?_ ?_
  · intro x rest h M hs
    obtain ⟨done, a, c, h1, h2, hq⟩ := prOut hs
    clear hs
    cases hx2 : xs.drop done.length with
    | nil => rw [hx2] at h1; cases h1
    | cons i xs' =>
      rw [hx2] at h1
      simp only [List.map_cons, List.cons.injEq] at h1
      obtain ⟨rfl, rfl⟩ := h1
      have hi4 : i < 4 := hx i (List.mem_of_mem_drop (by rw [hx2]; exact List.mem_cons_self))
      have hdl : done.length < xs.length := by
        rcases Nat.lt_or_ge done.length xs.length with h | h
        · exact h
        · rw [List.drop_eq_nil_of_le h] at hx2; cases hx2
      obtain ⟨a2, c2, hs⟩ := rowB_open (hq.perm (HasX.perm (A := rowB b o (r.askAll done))))
      refine r36_0 (r_atv hs) he (b36_1 ?_)
      refine r_beginv hs fun h hs => r_ld hs rfl (r_nilP (r_padd (r_idxA (by omega) (by omega) ?_)))
      rw [Nat.zero_add]
      refine r_stAsk hs hi4 fun h hs => r_ld hs rfl (r_ld hs rfl (r_ld hs rfl (r_fill (c := Note.enc ⟨11, i, line, 0, state, 0, 0, false, 0⟩) rfl (r_fill (c := Note.enc ⟨11, i, line, 0, state, 0, 0, false, 0⟩) rfl ?_))))
      refine r_newS hs rfl rfl rfl ?_
      intro a3 h hs
      refine r_appS hs (by omega) ?_
      intro a4 c4 h hs
      dsimp only
      refine r_stW hs rfl rfl rfl rfl ?_
      intro h hs
      refine r_setv hs ?_
      intro h hs
      refine .inl ⟨rfl, ?_⟩
      rw [← askAll_snoc] at hs
      have hs := rowB_close (r.askAll (done ++ [i])) (hs.front2 (seg b (o + 5) ((r.askAll (done ++ [i])).encB a2 c2)) (slc 9 38 a2 c2 ((r.askAll done).waits.length, encNs (r.askAll done).waits)))
      have hl : (done ++ [i]).length = done.length + 1 := by simp
      have hxs : xs = done ++ i :: xs' := by have := List.take_append_drop done.length xs; rw [h2, hx2] at this; exact this.symm
      refine prIn (done ++ [i]) a4 c4 ?_ ?_ ?_
      · have : xs = (done ++ [i]) ++ xs' := by simp [hxs]
        rw [this, List.drop_left]
      · have : xs = (done ++ [i]) ++ xs' := by simp [hxs]
        rw [this, List.take_left]
      · simp only [prC, List.drop_succ_cons, List.drop_zero, hl, probes_snoc, encNs_append, encNs_cons, encNs_nil, List.append_nil]
        exact hs.to
  · intro v h' hs
    obtain ⟨done, a, c, h1, h2, hs⟩ := prOut hs.at2
    have hd : xs = done := by
      have : xs.drop done.length = [] := by simpa using h1.symm
      rw [← h2, List.take_of_length_le (by simpa using this)]
    subst hd
    refine r_endv hs fun h' hs => r_endN ?_
    refine r_ld hs rfl (r_cm1 hs fun h' hs => r_cm0 ?_)
    refine hk _ _ ?_
    have e1 : (probes line state xs).length = xs.length := by simp [probes]
    have hs := notesI (l := probes line state xs) e1.symm rfl (hs.perm (HasX.perm (A := slc 9 38 a c (xs.length, encNs (probes line state xs)))))
    exact hs.to
  · intro v h' hs
    exact (Hs.puE (hs.at2)).1.elim
end Go.Proofs.YtagcnlaofkfpjaaDoor
end
section
namespace Go.Proofs.YtagcnlaofkfpjaaDoor
open Go Go.Ab Go.Hm
attribute [local irreducible] thn Br ld1 ldN stV alc alcAt alcS alcSAt resv padd nilV extV part1 partN lenS lenT biI biT biB biP biS biF biE biA unV idxS idxA pickV appV copyV clearV slS slA slT mkS blkOf at1 atN atS convI convS minV maxV Cl OkF OkR EndX endV beginV defersOf setLoop closeMarks
variable {G : Bg} {h : AH} {L L' : List HP}
theorem check_loop {C : Cfg} {p : Nat} {Q : Value → AH → Prop} (hs : Hs G h (seg p 0 C.enc :: L)) : ∀ (f i : Nat), i + f = 7 → Q (I (C.ckF f i)) h → A25_1 Q (pt p 0 0) (I 0) (.agg ⟨limE⟩) (I i) h := by
  intro f
  induction f with
  | zero =>
    intro i hi hq
    exact b25_1 (r_ltI (r_brF (by omega) hq))
  | succ f ih =>
    intro i hi hq
    have h7 : i < 7 := by omega
    refine b25_1 (r_ltI (r_brT (by omega) (b25_2 ?_)))
    have hc : C.enc[0 + i * 1]? = some (I (C.list.getD i 0)) := by
      have : i = 0 ∨ i = 1 ∨ i = 2 ∨ i = 3 ∨ i = 4 ∨ i = 5 ∨ i = 6 := by omega
      rcases this with rfl | rfl | rfl | rfl | rfl | rfl | rfl <;> rfl
    have hl : limE[i]? = some (I (limL.getD i 0)) := by
      have : i = 0 ∨ i = 1 ∨ i = 2 ∨ i = 3 ∨ i = 4 ∨ i = 5 ∨ i = 6 := by omega
      rcases this with rfl | rfl | rfl | rfl | rfl | rfl | rfl <;> rfl
    rw [Cfg.ckF] at hq
    refine r_at1 h7 hl (r_idxAn h7 (r_ld hs hc (r_ltI (r_br (fun h1 => ?_) (fun h1 => r_idxAn h7 (r_ld hs hc (r_gtI (r_br (fun h2 => b25_3 ?_) (fun h2 => b25_4 (r_addI (by omega) (ih (i + 1) (by omega) ?_)))))))))))
    · rw [if_pos (.inl h1)] at hq; exact hq
    · rw [if_pos (.inr h2)] at hq; exact hq
    · rw [if_neg (by omega)] at hq; exact hq
theorem check_ok {C : Cfg} {Q : Value → AH → Prop} (hl : Ob G 0 limE) (hs : Hs G h L) (hk : ∀ h', Hs G h' L → Q (I (if C.Ok then 0 else 10)) h') : Cl Pr K 25 [.agg ⟨C.enc⟩] h Q := by
  refine c25 (b25_0 ?_)
  refine r_bx hs ?_
  intro p h hs
  iterate 7 refine r_padd (r_ld hs rfl ?_)
  refine r_fill (c := C.enc) rfl (r_new hs ?_)
  intro p h hs
  refine r_stW hs rfl rfl rfl rfl ?_
  intro h hs
  refine r_ldNg hs hl rfl ?_
  refine check_loop (C := C) hs 7 0 rfl ?_
  rw [Cfg.ck_eq]
  exact hk _ hs.tail.tail
theorem lines_ok {C : Cfg} (hC : C.Ok) {Q : Value → AH → Prop} (hl : Ob G 0 limE) (hs : Hs G h L) (hk : ∀ h', Hs G h' L → Q (I C.lines) h') : Cl Pr K 27 [.agg ⟨C.enc⟩] h Q := by
  refine c27 (b27_0 ?_)
  refine r_bx hs ?_
  intro p h hs
  refine r_ldN hs (by decide) (l := C.enc) rfl rfl (check_ok hl hs fun h hs => ?_)
  rw [if_pos hC]
  have hb := Cfg.lines_eq hC
  refine r_neI (r_brF (by omega) ?_)
  refine r_padd (r_ld hs rfl (r_mulI (by unfold Cfg.Ok at hC; omega) ?_))
  rw [show C.granules * 2 = (C.lines : Int) from hb.1.symm]
  exact hk _ hs.tail
theorem bankOf_ok {C : Cfg} (hC : C.Ok) {l : Int} {Q : Value → AH → Prop} (hl : Ob G 0 limE) (hs : Hs G h L) (hk : ∀ h', Hs G h' L → Q (if 0 ≤ l ∧ l < C.lines then .tuple ⟨[I (l % C.banks), I 0]⟩ else .tuple ⟨[I 0, I 10]⟩) h') : Cl Pr K 51 [.agg ⟨C.enc⟩, I l] h Q := by
  refine c51 (b51_0 ?_)
  refine r_bx hs ?_
  intro p h hs
  refine r_ltI (r_br (fun h1 => ?_) (fun h1 => ?_))
  · have := hk _ hs.tail
    rw [if_neg (by omega)] at this; exact this
  · refine r_ldN hs (by decide) (l := C.enc) rfl rfl (lines_ok hC hl hs fun h hs => ?_)
    refine r_geI (r_br (fun h2 => ?_) (fun h2 => ?_))
    · have := hk _ hs.tail
      rw [if_neg (by omega)] at this; exact this
    · have := hk _ hs.tail
      rw [if_pos (by omega)] at this
      refine r_padd (r_ld hs rfl (r_rem (by omega) (by unfold Cfg.Ok at hC; omega) ?_))
      exact this
end Go.Proofs.YtagcnlaofkfpjaaDoor
end
section
namespace Go.Proofs.YtagcnlaofkfpjaaDoor
open Go Go.Ab Go.Hm
attribute [local irreducible] thn Br ld1 ldN stV alc alcAt alcS alcSAt resv padd nilV extV part1 partN lenS lenT biI biT biB biP biS biF biE biA unV idxS idxA pickV appV copyV clearV slS slA slT mkS blkOf at1 atN atS convI convS minV maxV Cl OkF OkR EndX endV beginV defersOf setLoop closeMarks
variable {G : Bg} {h : AH} {L L' : List HP}
structure BkA where
  r : Int
  w : Int
  a : Option Addr
  cap : Nat
/-- the bank 'i' of 'B', of the first 'n' lines -/
def bankR (n B b o i : Nat) (mem : Nat → Ln) : HP := exH fun x : BkA =>
  sp [seg b o [I x.r, I x.w, .slice x.a (cntB n B i) x.cap], slc 2 36 x.a x.cap (cntB n B i, (List.range (cntB n B i)).flatMap (bkC B i mem))]
theorem bank_open {n B b o i : Nat} {mem : Nat → Ln} (hs : Hs G h (bankR n B b o i mem :: L)) : ∃ r w a cap, Hs G h (seg b o [I r, I w, .slice a (cntB n B i) cap] :: slc 2 36 a cap (cntB n B i, (List.range (cntB n B i)).flatMap (bkC B i mem)) :: L) := by
  obtain ⟨⟨r, w, a, cap⟩, hs⟩ := hs.exE
  exact ⟨r, w, a, cap, hs.unpack⟩
theorem bank_close {n B b o i : Nat} {mem : Nat → Ln} {r w : Int} {a : Option Addr} {cap : Nat} (hs : Hs G h (seg b o [I r, I w, .slice a (cntB n B i) cap] :: slc 2 36 a cap (cntB n B i, (List.range (cntB n B i)).flatMap (bkC B i mem)) :: L)) : Hs G h (bankR n B b o i mem :: L) :=
  Hs.exI (A := fun x : BkA => sp [seg b o [I x.r, I x.w, .slice x.a (cntB n B i) x.cap], slc 2 36 x.a x.cap (cntB n B i, (List.range (cntB n B i)).flatMap (bkC B i mem))]) ⟨r, w, a, cap⟩ (Hs.pack (A := [_, _]) hs)
structure MmA where
  b : Nat
  o : Nat
  cap : Nat
/-- the first 'n' lines of memory -/
def memN (G : Bg) (n mb : Nat) (C : Cfg) (mem : Nat → Ln) : HP := exH fun x : MmA =>
  sp [seg mb 0 (C.enc ++ [.slice (some ⟨x.b, x.o, none⟩) C.banks.toNat x.cap]), hole G 3 94 (some ⟨x.b, x.o, none⟩) x.cap C.banks.toNat x.b x.o, big C.banks.toNat fun i => bankR n C.banks.toNat x.b (x.o + i * 3) i mem]
theorem mem_open {n mb : Nat} {C : Cfg} {mem : Nat → Ln} (hs : Hs G h (memN G n mb C mem :: L)) : ∃ b o cap, Hs G h (seg mb 0 (C.enc ++ [.slice (some ⟨b, o, none⟩) C.banks.toNat cap]) :: hole G 3 94 (some ⟨b, o, none⟩) cap C.banks.toNat b o :: big C.banks.toNat (fun i => bankR n C.banks.toNat b (o + i * 3) i mem) :: L) := by
  obtain ⟨⟨b, o, cap⟩, hs⟩ := hs.exE
  exact ⟨b, o, cap, hs.unpack⟩
theorem mem_close {n mb : Nat} {C : Cfg} {mem : Nat → Ln} {b o cap : Nat} (hs : Hs G h (seg mb 0 (C.enc ++ [.slice (some ⟨b, o, none⟩) C.banks.toNat cap]) :: hole G 3 94 (some ⟨b, o, none⟩) cap C.banks.toNat b o :: big C.banks.toNat (fun i => bankR n C.banks.toNat b (o + i * 3) i mem) :: L)) : Hs G h (memN G n mb C mem :: L) :=
  Hs.exI (A := fun x : MmA => sp [seg mb 0 (C.enc ++ [.slice (some ⟨x.b, x.o, none⟩) C.banks.toNat x.cap]), hole G 3 94 (some ⟨x.b, x.o, none⟩) x.cap C.banks.toNat x.b x.o, big C.banks.toNat fun i => bankR n C.banks.toNat x.b (x.o + i * 3) i mem]) ⟨b, o, cap⟩ (Hs.pack (A := [_, _, _]) hs)
theorem mem_shut {L1 L2 L3 : List HP} (n mb : Nat) (C : Cfg) (mem : Nat → Ln) (b o cap : Nat) (hs : Hs G h L) [k : HasX (seg mb 0 (C.enc ++ [.slice (some ⟨b, o, none⟩) C.banks.toNat cap])) L L1] [k2 : HasX (hole G 3 94 (some ⟨b, o, none⟩) cap C.banks.toNat b o) L1 L2] [k3 : HasX (big C.banks.toNat (fun i => bankR n C.banks.toNat b (o + i * 3) i mem)) L2 L3] : Hs G h (memN G n mb C mem :: L3) :=
  mem_close (b := b) (o := o) (cap := cap) (hs.perm (k.perm.trans ((k2.perm.trans (k3.perm.cons _)).cons _)))
theorem find_ok {C : Cfg} (hC : C.Ok) {mb b o cap l : Nat} {Q : Value → AH → Prop} (hl : Ob G 0 limE) (hs : Hs G h L) [m : Has (seg mb 0) L (C.enc ++ [.slice (some ⟨b, o, none⟩) C.banks.toNat cap]) L'] (h0 : l < C.lines)
    (hk : ∀ h', Hs G h' L → Q (.tuple ⟨[pt b (o + (l % C.banks.toNat) * 3) 0, I (l / C.banks.toNat : Nat), I 0]⟩) h') : Cl Pr K 38 [pt mb 0 0, I l] h Q := by
  have hb := Cfg.bk hC
  refine c38 (b38_0 (r_ptEq (r_brf (b38_1 ?_))))
  refine r_nilP (r_padd (r_ldN hs (by decide) (l := C.enc) rfl rfl (bankOf_ok hC hl hs fun h hs => ?_)))
  rw [if_pos (by omega)]
  refine r_ext rfl (r_ext rfl (r_neI (r_brF (by omega) ?_)))
  refine r_resv hs ?_
  intro r h hs
  refine r_nilP (r_padd (r_ld hs rfl ?_))
  have e1 : (l : Int) % C.banks = ((l % C.banks.toNat : Nat) : Int) := by rw [← hb.1]; simp
  have e2 : (l : Int) / C.banks = ((l / C.banks.toNat : Nat) : Int) := by rw [← hb.1]; simp
  rw [e1]
  refine r_idxN (Nat.mod_lt _ hb.2.1) (r_nilP (r_padd (r_padd (r_ld hs rfl (r_quo (by omega) (by omega) (by have := (Cfg.lines_eq hC).2; omega) ?_)))))
  rw [e2]
  exact hk _ hs.tail
theorem read_ok {C : Cfg} (hC : C.Ok) {mb l : Nat} {mem : Nat → Ln} {Q : Value → AH → Prop} (hl : Ob G 0 limE) (hs : Hs G h L) [m : Has (memN G C.lines mb C) L mem L'] (h0 : l < C.lines)
    (hk : ∀ h', Hs G h' (memN G C.lines mb C mem :: L') → Q (.tuple ⟨[.agg ⟨lnE (mem l)⟩, I 0]⟩) h') : Cl Pr K 19 [pt mb 0 0, I l] h Q := by
  have hb := Cfg.bk hC
  have hs := m.of hs
  obtain ⟨b, o, cap, hs⟩ := mem_open hs
  refine c19 (b19_0 (r_new hs ?_))
  intro p h hs
  refine find_ok hC hl hs h0 fun h hs => ?_
  refine r_ext rfl (r_ext rfl (r_ext rfl (r_neI (r_brF (by omega) (b19_1 ?_)))))
  have hs := (hs.front (big C.banks.toNat fun i => bankR C.lines C.banks.toNat b (o + i * 3) i mem)).bigOut (l % C.banks.toNat) (Nat.mod_lt _ hb.2.1)
  obtain ⟨r, w, a, cp, hs⟩ := bank_open hs
  refine r_nilP (r_padd (r_padd (r_ld hs rfl (r_addW (r_nilP (r_padd (r_padd (r_sto hs rfl rfl rfl rfl ?_))))))))
  intro h hs
  refine r_nilP (r_padd (r_ld hs rfl ?_))
  have hat := cntB_at hb.2.1 h0
  obtain ⟨b2, o2, rfl, H, hs, hback⟩ := Hs.elemF (bkC_len (B := C.banks.toNat) (i := l % C.banks.toNat) (mem := mem)) hat (hs.front (slc 2 36 a cp (cntB C.lines C.banks.toNat (l % C.banks.toNat), (List.range (cntB C.lines C.banks.toNat (l % C.banks.toNat))).flatMap (bkC C.banks.toNat (l % C.banks.toNat) mem))))
  rw [bkC_at hb.2.1] at hs
  refine r_idxN hat (r_ldN hs (by decide) (l := lnE (mem l)) rfl rfl ?_)
  refine r_stW hs rfl rfl rfl rfl ?_
  intro h hs
  refine r_ldN hs (by decide) rfl rfl ?_
  refine hk _ ?_
  have hs := hback _ _ _ rfl rfl (hs.front2 (seg b2 (o2 + l / C.banks.toNat * 2) (lnE (mem l))) H)
  rw [bkC_upd hb.2.1, updA_self] at hs
  have hs := bank_close (hs.sg (b := b) (o := o + l % C.banks.toNat * 3) (c := [I (wr (r + 1)), I w, .slice (some ⟨b2, o2, none⟩) (cntB C.lines C.banks.toNat (l % C.banks.toNat)) cp]) rfl)
  exact mem_close (b := b) (o := o) (cap := cap) ((hs.bigPut (n := C.banks.toNat) (i := l % C.banks.toNat) (fun i => bankR C.lines C.banks.toNat b (o + i * 3) i mem) (fun i => bankR C.lines C.banks.toNat b (o + i * 3) i mem) (Nat.mod_lt _ hb.2.1) (fun _ _ _ => rfl)).to)
theorem write_ok {C : Cfg} (hC : C.Ok) {mb l : Nat} {mem : Nat → Ln} {v : Ln} {Q : Value → AH → Prop} (hl : Ob G 0 limE) (hs : Hs G h L) [m : Has (memN G C.lines mb C) L mem L'] (h0 : l < C.lines)
    (hk : ∀ h', Hs G h' (memN G C.lines mb C (updA mem l v) :: L') → Q (I 0) h') : Cl Pr K 31 [pt mb 0 0, I l, .agg ⟨lnE v⟩] h Q := by
  have hb := Cfg.bk hC
  have hs := m.of hs
  obtain ⟨b, o, cap, hs⟩ := mem_open hs
  refine c31 (b31_0 (r_bx hs ?_))
  intro p h hs
  refine find_ok hC hl hs h0 fun h hs => ?_
  refine r_ext rfl (r_ext rfl (r_ext rfl (r_neI (r_brF (by omega) (b31_1 ?_)))))
  have hs := (hs.front (big C.banks.toNat fun i => bankR C.lines C.banks.toNat b (o + i * 3) i mem)).bigOut (l % C.banks.toNat) (Nat.mod_lt _ hb.2.1)
  obtain ⟨r, w, a, cp, hs⟩ := bank_open hs
  refine r_nilP (r_padd (r_padd (r_ld hs rfl (r_addW (r_nilP (r_padd (r_padd (r_sto hs rfl rfl rfl rfl ?_))))))))
  intro h hs
  refine r_resv hs ?_
  intro rv h hs
  refine r_nilP (r_padd (r_ld hs rfl (r_ldN hs (by decide) rfl rfl ?_)))
  have hat := cntB_at hb.2.1 h0
  obtain ⟨b2, o2, rfl, H, hs, hback⟩ := Hs.elemF (bkC_len (B := C.banks.toNat) (i := l % C.banks.toNat) (mem := mem)) hat (hs.front (slc 2 36 a cp (cntB C.lines C.banks.toNat (l % C.banks.toNat), (List.range (cntB C.lines C.banks.toNat (l % C.banks.toNat))).flatMap (bkC C.banks.toNat (l % C.banks.toNat) mem))))
  refine r_idxN hat (r_stW hs rfl rfl rfl rfl ?_)
  intro h hs
  refine hk _ ?_
  have hs := hback _ _ _ rfl rfl ((hs.sg (b := b2) (o := o2 + l / C.banks.toNat * 2) (c := lnE v) rfl).front2 (seg b2 (o2 + l / C.banks.toNat * 2) (lnE v)) H)
  rw [bkC_upd hb.2.1] at hs
  have hs := bank_close (hs.sg (b := b) (o := o + l % C.banks.toNat * 3) (c := [I r, I (wr (w + 1)), .slice (some ⟨b2, o2, none⟩) (cntB C.lines C.banks.toNat (l % C.banks.toNat)) cp]) rfl)
  exact mem_close (b := b) (o := o) (cap := cap) ((hs.bigPut (n := C.banks.toNat) (i := l % C.banks.toNat) (fun i => bankR C.lines C.banks.toNat b (o + i * 3) i mem) (fun i => bankR C.lines C.banks.toNat b (o + i * 3) i (updA mem l v)) (Nat.mod_lt _ hb.2.1) (fun i hi hne => by simp only [bankR, bkC_ne hi hne])).to)
theorem memNew_loop {C : Cfg} (hC : C.Ok) {p mb : Nat} {Q : Value → AH → Prop} (hk : ∀ h', Hs G h' (memN G C.lines mb C mem0 :: L) → Q (.tuple ⟨[pt mb 0 0, I 0]⟩) h') : ∀ (f n : Nat) (h : AH) (g : HP), n + f = C.lines → Hs G h (memN G n mb C mem0 :: seg p 0 C.enc :: g :: L) →
    A26_2 Q (pt p 0 0) (pt mb 0 0) (I C.lines) (I n) h := by
  have hb := Cfg.bk hC
  have hln := Cfg.lines_eq hC
  intro f
  induction f with
  | zero =>
    intro n h g hn hs
    have : n = C.lines := by omega
    subst this
    exact b26_2 (r_ltI (r_brF (by omega) (hk _ hs.to)))
  | succ f ih =>
    intro n h g hn hs
    refine b26_2 (r_ltI (r_brT (by omega) (b26_3 ?_)))
    refine r_resv hs ?_
    intro rv h hs
    obtain ⟨b, o, cap, hs⟩ := mem_open (hs.front (memN G n mb C mem0))
    refine r_nilP (r_padd (r_ld hs rfl (r_padd (r_ld hs rfl ?_))))
    have e1 : (n : Int) % C.banks = ((n % C.banks.toNat : Nat) : Int) := by rw [← hb.1]; simp
    refine r_rem (by omega) (by omega) ?_
    rw [e1]
    have hi := Nat.mod_lt n hb.2.1
    refine r_idxN hi ?_
    have hs := (hs.front (big C.banks.toNat fun i => bankR n C.banks.toNat b (o + i * 3) i mem0)).bigOut (n % C.banks.toNat) hi
    obtain ⟨r, w, a, cp, hs⟩ := bank_open hs
    refine r_nilP (r_padd (r_ld hs rfl (r_fill (c := lnE (0, 0)) rfl (r_fill (c := lnE (0, 0)) rfl ?_))))
    refine r_newS hs rfl rfl rfl ?_
    intro a3 h hs
    have hcl := cntB_le (n := n) (B := C.banks.toNat) (i := n % C.banks.toNat) hb.2.1
    refine r_appS hs (by omega) ?_
    intro a4 c4 h hs
    dsimp only
    refine r_nilP (r_padd (r_sto hs rfl rfl rfl rfl ?_))
    intro h hs
    refine r_addI (by omega) ?_
    refine ih (n + 1) h (sp [slc 2 36 (some a3) 1 (1, lnE (0, 0)), frK rv (10, []), g]) (by omega) ?_
    have ec : cntB (n + 1) C.banks.toNat (n % C.banks.toNat) = cntB n C.banks.toNat (n % C.banks.toNat) + 1 := by rw [cntB_succ hi, if_pos rfl]
    have ef : (List.range (cntB n C.banks.toNat (n % C.banks.toNat))).flatMap (bkC C.banks.toNat (n % C.banks.toNat) mem0) ++ lnE (0, 0) = (List.range (cntB (n + 1) C.banks.toNat (n % C.banks.toNat))).flatMap (bkC C.banks.toNat (n % C.banks.toNat) mem0) := by
      rw [ec, List.range_succ, List.flatMap_append]; rfl
    rw [ef, ← ec] at hs
    have hs := bank_close (n := n + 1) (r := r) (w := w) (a := a4) (cap := c4) (b := b) (o := o + n % C.banks.toNat * 3) hs
    exact (mem_shut (n + 1) mb C mem0 b o cap (hs.bigPut (n := C.banks.toNat) (i := n % C.banks.toNat) (fun i => bankR n C.banks.toNat b (o + i * 3) i mem0) (fun i => bankR (n + 1) C.banks.toNat b (o + i * 3) i mem0) hi (fun j hj hne => by simp only [bankR, cntB_succ hj, if_neg hne]))).to
theorem memNew_ok {C : Cfg} (hC : C.Ok) {Q : Value → AH → Prop} (hl : Ob G 0 limE) (hs : Hs G h L) (hk : ∀ mb h', Hs G h' (memN G C.lines mb C mem0 :: L) → Q (.tuple ⟨[pt mb 0 0, I 0]⟩) h') : Cl Pr K 26 [.agg ⟨C.enc⟩] h Q := by
  have hb := Cfg.bk hC
  refine c26 (b26_0 (r_bx hs ?_))
  intro p h hs
  refine r_ldN hs (by decide) (l := C.enc) rfl rfl (check_ok hl hs fun h hs => ?_)
  rw [if_pos hC]
  refine r_neI (r_brF (by omega) (b26_1 (r_resv hs ?_)))
  intro rv h hs
  refine r_ldN hs (by decide) (l := C.enc) rfl rfl (r_padd (r_ld hs rfl (r_mkSI (by omega) (by omega) (by omega) ?_)))
  dsimp only
  refine r_newSAt hs rfl rfl ?_ rfl ?_ ?_
  · rw [zerosA_flat, flat_len (W := 3) (fun _ => rfl)]
  · rw [zerosA_flat]; exact flat_cells (fun _ => rfl) _
  intro a h hs
  obtain ⟨b, o, ha, hs⟩ := Hs.newBig (W := 3) rfl hb.2.1 hs
  cases ha
  refine r_fill (c := C.enc ++ [.slice (some ⟨b, o, none⟩) C.banks.toNat C.banks.toNat]) rfl ?_
  refine r_bxAt hs rfl rfl ?_
  intro mb h hs
  refine r_ldN hs (by decide) (l := C.enc) rfl rfl (lines_ok hC hl hs fun h hs => ?_)
  have hs := (Hs.bigMap (g := fun i => bankR 0 C.banks.toNat b (o + i * 3) i mem0) C.banks.toNat _ (fun i hi h L hs => ?_) (hs.front (big C.banks.toNat fun i => seg b (o + i * 3) [I 0, I 0, .slice none 0 0])))
  · have hs := mem_shut 0 mb C mem0 b o C.banks.toNat hs
    exact memNew_loop hC (hk mb) C.lines 0 h _ (by omega) (hs.to (M := [memN G 0 mb C mem0, seg p 0 C.enc, sp []] ++ L))
  · refine bank_close (r := 0) (w := 0) (a := none) (cap := 0) ?_
    rw [cntB_zero hi]
    exact (slc_nil hs).at2
end Go.Proofs.YtagcnlaofkfpjaaDoor
end
section
namespace Go.Proofs.YtagcnlaofkfpjaaDoor
open Go Go.Ab Go.Hm
attribute [local irreducible] thn Br ld1 ldN stV alc alcAt alcS alcSAt resv padd nilV extV part1 partN lenS lenT biI biT biB biP biS biF biE biA unV idxS idxA pickV appV copyV clearV slS slA slT mkS blkOf at1 atN atS convI convS minV maxV Cl OkF OkR EndX endV beginV defersOf setLoop closeMarks
variable {G : Bg} {h : AH} {L L' : List HP}
theorem r_stSh {b o : Nat} {x : Int} {c' : List Value} {a : Option Addr} {c : Nat} {v : Bool} {k : AH → Prop} (r : Row) (hs : Hs G h L) [m : Has (seg b o) L c' L'] (hc : c' = r.enc a c) (hx : 0 ≤ x ∧ x < 4) (hk : ∀ h', Hs G h' (seg b o (({ r with sh := updB r.sh x v } : Row).enc a c) :: L') → k h') : thn (stV h 1 (pt b o (0 + 1 + x.toNat * 1)) (.bool v)) k := by
  subst hc
  have : x = 0 ∨ x = 1 ∨ x = 2 ∨ x = 3 := by omega
  rcases this with rfl | rfl | rfl | rfl
  all_goals
    refine r_sto hs rfl rfl rfl rfl ?_
    exact hk
theorem r_stAk {b o : Nat} {x : Int} {c' : List Value} {a : Option Addr} {c : Nat} {v : Bool} {k : AH → Prop} (r : Row) (hs : Hs G h L) [m : Has (seg b o) L c' L'] (hc : c' = r.enc a c) (hx : 0 ≤ x ∧ x < 4) (hk : ∀ h', Hs G h' (seg b o (({ r with asked := updB r.asked x v } : Row).enc a c) :: L') → k h') : thn (stV h 1 (pt b o (0 + 17 + x.toNat * 1)) (.bool v)) k := by
  subst hc
  have : x = 0 ∨ x = 1 ∨ x = 2 ∨ x = 3 := by omega
  rcases this with rfl | rfl | rfl | rfl
  all_goals
    refine r_sto hs rfl rfl rfl rfl ?_
    exact hk
def homE (mb : Nat) (C : Cfg) (b o cap : Nat) : List Value := [pt mb 0 0, I C.cores, I C.granules, I C.sets, I C.ways, I C.depth, I C.entries, I C.banks, .slice (some ⟨b, o, none⟩) C.lines cap]
structure HmA where
  mb : Nat
  b : Nat
  o : Nat
  cap : Nat
def homP (G : Bg) (hb : Nat) (C : Cfg) (H : Hom) (x : HmA) : List HP :=
  [seg hb 0 (homE x.mb C x.b x.o x.cap), memN G C.lines x.mb C (fun i => (H i).2), hole G 25 73 (some ⟨x.b, x.o, none⟩) x.cap C.lines x.b x.o, big C.lines fun i => rowR x.b (x.o + i * 25) (H i).1]
/-- a home -/
def homR (G : Bg) (hb : Nat) (C : Cfg) (H : Hom) : HP := exH fun x : HmA => sp (homP G hb C H x)
/-- all but a line's row -/
def homX (b o n : Nat) (H : Hom) (l : Nat) : HP := sp (((List.range n).erase l).map fun i => rowR b (o + i * 25) (H i).1)
theorem hom_open {hb : Nat} {C : Cfg} {H : Hom} (hs : Hs G h (homR G hb C H :: L)) : ∃ mb b o cap, Hs G h (seg hb 0 (homE mb C b o cap) :: memN G C.lines mb C (fun i => (H i).2) :: hole G 25 73 (some ⟨b, o, none⟩) cap C.lines b o :: big C.lines (fun i => rowR b (o + i * 25) (H i).1) :: L) := by
  obtain ⟨⟨mb, b, o, cap⟩, hs⟩ := hs.exE
  exact ⟨mb, b, o, cap, hs.unpack⟩
theorem hom_row {hb l : Nat} {C : Cfg} {H : Hom} (hl : l < C.lines) (hs : Hs G h (homR G hb C H :: L)) : ∃ mb b o cap, Hs G h (rowR b (o + l * 25) (H l).1 :: seg hb 0 (homE mb C b o cap) :: memN G C.lines mb C (fun i => (H i).2) :: hole G 25 73 (some ⟨b, o, none⟩) cap C.lines b o :: homX b o C.lines H l :: L) := by
  obtain ⟨mb, b, o, cap, hs⟩ := hom_open hs
  have hs := (hs.front (big C.lines fun i => rowR b (o + i * 25) (H i).1)).bigOut l hl
  exact ⟨mb, b, o, cap, (show Hs G h (rowR b (o + l * 25) (H l).1 :: homX b o C.lines H l :: _) from hs).to⟩
theorem hom_close {hb : Nat} {C : Cfg} {H : Hom} {mb b o cap : Nat} (hs : Hs G h (seg hb 0 (homE mb C b o cap) :: memN G C.lines mb C (fun i => (H i).2) :: hole G 25 73 (some ⟨b, o, none⟩) cap C.lines b o :: big C.lines (fun i => rowR b (o + i * 25) (H i).1) :: L)) : Hs G h (homR G hb C H :: L) :=
  Hs.exI (A := fun x => sp (homP G hb C H x)) ⟨mb, b, o, cap⟩ (Hs.pack (A := homP G hb C H ⟨mb, b, o, cap⟩) hs)
theorem mem_of {H : Hom} {l : Nat} {x : Lin} : (fun i => (updA H l x i).2) = updA (fun i => (H i).2) l x.2 := by
  funext i; unfold updA; split <;> rfl
theorem hom_shut {L1 L2 L3 L4 L5 : List HP} (hb : Nat) (C : Cfg) (H : Hom) (l : Nat) (r : Row) (m : Ln) (mem : Nat → Ln) (mb b o cap : Nat) (hl : l < C.lines) (hm : mem = updA (fun i => (H i).2) l m) (hs : Hs G h L) [k1 : HasX (rowR b (o + l * 25) r) L L1] [k2 : HasX (seg hb 0 (homE mb C b o cap)) L1 L2] [k3 : HasX (memN G C.lines mb C mem) L2 L3]
    [k4 : HasX (hole G 25 73 (some ⟨b, o, none⟩) cap C.lines b o) L3 L4] [k5 : HasX (homX b o C.lines H l) L4 L5] : Hs G h (homR G hb C (updA H l (r, m)) :: L5) := by
  subst hm
  have hs : Hs G h (rowR b (o + l * 25) r :: homX b o C.lines H l :: seg hb 0 (homE mb C b o cap) :: memN G C.lines mb C (updA (fun i => (H i).2) l m) :: hole G 25 73 (some ⟨b, o, none⟩) cap C.lines b o :: L5) :=
    (hs.perm (k1.perm.trans ((k2.perm.trans ((k3.perm.trans ((k4.perm.trans (k5.perm.cons _)).cons _)).cons _)).cons _))).to
  have e0 : (fun i => rowR b (o + i * 25) (updA H l (r, m) i).1) l = rowR b (o + l * 25) r := by simp only [updA_same]
  rw [← e0] at hs
  unfold homX at hs
  have hs := hs.bigPut (n := C.lines) (i := l) (fun i => rowR b (o + i * 25) (H i).1) (fun i => rowR b (o + i * 25) (updA H l (r, m) i).1) hl (fun j _ hne => by simp only [updA_ne hne])
  rw [← mem_of (x := (r, m))] at hs
  exact hom_close (mb := mb) (b := b) (o := o) (cap := cap) hs.to

theorem notes1 {a : Addr} {n : Note} {cs : List Value} (hc : cs = n.enc) (hs : Hs G h (slc 9 38 (some a) 1 (1, cs) :: L)) : Hs G h (notesR (.slice (some a) 1 1) [n] :: L) := notesI rfl (by rw [hc]; simp) hs
theorem notes0 (hs : Hs G h L) : Hs G h (notesR (.slice none 0 0) [] :: L) := notesI rfl rfl (slc_nil hs)
section
variable {b o p : Nat} {r : Row} {wa : Option Addr} {wc : Nat} {line : Int} {d : Ln} {Q : Value → AH → Prop}
/-- a row whose cells are told, and its requests -/
theorem row_shut (b o : Nat) (r : Row) (a : Option Addr) (c : Nat) {c' : List Value} {n : Nat} {cs : List Value} {L1 L2 : List HP} (hs : Hs G h L) [m : Has (seg b o) L c' L1] (hc : c' = r.enc a c) [m2 : Has (slc 9 38 a c) L1 (n, cs) L2] (hn : n = r.waits.length) (hcs : cs = encNs r.waits) : Hs G h (rowR b o r :: L2) := by
  subst hc; subst hn; subst hcs
  exact rowR_close r (hs.perm (m.perm.trans (m2.perm.cons _)))
theorem grant_M (hkd : r.served.kind = 2) (hs : Hs G h (seg p 0 (r.grantN line 0 d).enc :: seg b o (r.enc wa wc) :: slc 9 38 wa wc (r.waits.length, encNs r.waits) :: L)) (hk : ∀ v h', Hs G h' (notesR v (r.grant line d).2 :: rowR b o (r.grant line d).1 :: L) → Q v h') :
    A47_3 Q (pt b o 0) (I r.served.core) (pt p 0 0) h := by
  simp only [Row.grant, if_pos hkd] at hk
  refine b47_3 ?_
  repeat' first
    | refine r_padd ?_
    | refine r_nilP ?_
    | refine r_lenS ?_
    | refine r_ext rfl ?_
    | refine r_part1 rfl ?_
    | refine r_partN rfl rfl ?_
    | refine r_ltI ?_
    | refine r_leI ?_
    | refine r_gtI ?_
    | refine r_geI ?_
    | refine r_eqI ?_
    | refine r_neI ?_
    | refine r_ptNe ?_
    | refine r_ptEq ?_
    | refine r_not ?_
    | refine r_brt ?_
    | refine r_brf ?_
    | refine r_brn ?_
    | refine r_ld hs rfl ?_
    | refine r_ldN hs (by decide) rfl rfl ?_
    | (refine r_stW hs rfl rfl rfl rfl ?_; intro h hs)
    | (refine r_sto hs rfl rfl rfl rfl ?_; intro h hs)
    | (refine r_st hs rfl rfl rfl rfl rfl ?_; intro h hs)
    | (refine r_new hs ?_; intro p h hs)
    | (refine r_bx hs ?_; intro p h hs)
    | (refine r_box hs rfl ?_; intro p h hs)
    | (refine r_resv hs ?_; intro r h hs)
    | (refine r_newAt hs rfl rfl ?_; intro p h hs)
    | (refine r_newAt0 hs rfl rfl ?_; intro p h hs)
    | (refine r_bxAt hs rfl rfl ?_; intro p h hs)
    | (refine r_bxAt0 hs rfl rfl ?_; intro p h hs)
    | (refine r_boxAt hs rfl rfl rfl ?_; intro p h hs)
    | (refine r_boxAt0 hs rfl rfl rfl ?_; intro p h hs)
    | (refine r_newS hs rfl rfl rfl ?_; intro a h hs)
    | (refine r_newSAt hs rfl rfl rfl rfl rfl ?_; intro a h hs)
    | (refine r_newSAt0 hs rfl rfl rfl rfl rfl ?_; intro a h hs)
    | refine r_addI (by omega) ?_
    | refine r_subI (by omega) ?_
    | refine r_brT (by omega) ?_
    | refine r_brF (by omega) ?_
    | refine r_nilF ?_
    | refine r_fill rfl ?_
    | exact veq_P
    | exact veq_I
    | exact veq_B
    | exact veq_S
    | refine r_fl ?_ ?_
    | (refine r_marks hs ?_; intro d h hs)
    | (refine r_setv hs ?_; intro h hs)
    | (refine r_beginv hs ?_; intro h hs)
    | refine r_defersv hs ?_
    | refine r_cm0 ?_
    | (refine r_cm1 hs ?_; intro h hs)
  refine hk _ _ ?_
  have hs := notes1 (n := r.grantN line 4 d) rfl hs
  exact (row_shut b o { r with owner := r.served.core, sh := fun _ => false, granted := true } wa wc hs rfl rfl rfl).to
theorem grant_S (hkd : r.served.kind ≠ 2) (hc : 0 ≤ r.served.core ∧ r.served.core < 4) (hs : Hs G h (seg p 0 (r.grantN line 0 d).enc :: seg b o (r.enc wa wc) :: slc 9 38 wa wc (r.waits.length, encNs r.waits) :: L)) (hk : ∀ v h', Hs G h' (notesR v (r.grant line d).2 :: rowR b o (r.grant line d).1 :: L) → Q v h') :
    A47_4 Q (pt b o 0) (I r.served.core) (pt p 0 0) h := by
  simp only [Row.grant, if_neg hkd] at hk
  have hs := row_shut b o r wa wc hs rfl rfl rfl
  refine b47_4 (first_ok hs fun hs => ?_)
  obtain ⟨wa, wc, hs⟩ := rowR_open hs
  refine r_eqI (r_br (fun h1 => ?_) (fun h1 => ?_))
  · rw [if_pos h1] at hk
    refine b47_5 (r_padd (r_sto hs rfl rfl rfl rfl ?_))
    intro h hs
    refine r_nilP (r_padd (r_sto hs rfl rfl rfl rfl ?_))
    intro h hs
    refine r_nilP (r_padd (r_idxA hc.1 hc.2 (r_stSh { r with owner := r.served.core } hs rfl hc ?_)))
    intro h hs
    repeat' first
      | refine r_padd ?_
      | refine r_nilP ?_
      | refine r_lenS ?_
      | refine r_ext rfl ?_
      | refine r_part1 rfl ?_
      | refine r_partN rfl rfl ?_
      | refine r_ltI ?_
      | refine r_leI ?_
      | refine r_gtI ?_
      | refine r_geI ?_
      | refine r_eqI ?_
      | refine r_neI ?_
      | refine r_ptNe ?_
      | refine r_ptEq ?_
      | refine r_not ?_
      | refine r_brt ?_
      | refine r_brf ?_
      | refine r_brn ?_
      | refine r_ld hs rfl ?_
      | refine r_ldN hs (by decide) rfl rfl ?_
      | (refine r_stW hs rfl rfl rfl rfl ?_; intro h hs)
      | (refine r_sto hs rfl rfl rfl rfl ?_; intro h hs)
      | (refine r_st hs rfl rfl rfl rfl rfl ?_; intro h hs)
      | (refine r_new hs ?_; intro p h hs)
      | (refine r_bx hs ?_; intro p h hs)
      | (refine r_box hs rfl ?_; intro p h hs)
      | (refine r_resv hs ?_; intro r h hs)
      | (refine r_newAt hs rfl rfl ?_; intro p h hs)
      | (refine r_newAt0 hs rfl rfl ?_; intro p h hs)
      | (refine r_bxAt hs rfl rfl ?_; intro p h hs)
      | (refine r_bxAt0 hs rfl rfl ?_; intro p h hs)
      | (refine r_boxAt hs rfl rfl rfl ?_; intro p h hs)
      | (refine r_boxAt0 hs rfl rfl rfl ?_; intro p h hs)
      | (refine r_newS hs rfl rfl rfl ?_; intro a h hs)
      | (refine r_newSAt hs rfl rfl rfl rfl rfl ?_; intro a h hs)
      | (refine r_newSAt0 hs rfl rfl rfl rfl rfl ?_; intro a h hs)
      | refine r_addI (by omega) ?_
      | refine r_subI (by omega) ?_
      | refine r_brT (by omega) ?_
      | refine r_brF (by omega) ?_
      | refine r_nilF ?_
      | refine r_fill rfl ?_
      | exact veq_P
      | exact veq_I
      | exact veq_B
      | exact veq_S
      | refine r_fl ?_ ?_
      | (refine r_marks hs ?_; intro d h hs)
      | (refine r_setv hs ?_; intro h hs)
      | (refine r_beginv hs ?_; intro h hs)
      | refine r_defersv hs ?_
      | refine r_cm0 ?_
      | (refine r_cm1 hs ?_; intro h hs)
    refine hk _ _ ?_
    have hs := notes1 (n := r.grantN line 2 d) rfl hs
    exact (row_shut b o { r with owner := r.served.core, sh := updB r.sh r.served.core false, granted := true } wa wc hs rfl rfl rfl).to
  · rw [if_neg h1] at hk
    refine b47_6 (r_padd (r_sto hs rfl rfl rfl rfl ?_))
    intro h hs
    refine r_nilP (r_padd (r_idxA hc.1 hc.2 (r_stSh r hs rfl hc ?_)))
    intro h hs
    repeat' first
      | refine r_padd ?_
      | refine r_nilP ?_
      | refine r_lenS ?_
      | refine r_ext rfl ?_
      | refine r_part1 rfl ?_
      | refine r_partN rfl rfl ?_
      | refine r_ltI ?_
      | refine r_leI ?_
      | refine r_gtI ?_
      | refine r_geI ?_
      | refine r_eqI ?_
      | refine r_neI ?_
      | refine r_ptNe ?_
      | refine r_ptEq ?_
      | refine r_not ?_
      | refine r_brt ?_
      | refine r_brf ?_
      | refine r_brn ?_
      | refine r_ld hs rfl ?_
      | refine r_ldN hs (by decide) rfl rfl ?_
      | (refine r_stW hs rfl rfl rfl rfl ?_; intro h hs)
      | (refine r_sto hs rfl rfl rfl rfl ?_; intro h hs)
      | (refine r_st hs rfl rfl rfl rfl rfl ?_; intro h hs)
      | (refine r_new hs ?_; intro p h hs)
      | (refine r_bx hs ?_; intro p h hs)
      | (refine r_box hs rfl ?_; intro p h hs)
      | (refine r_resv hs ?_; intro r h hs)
      | (refine r_newAt hs rfl rfl ?_; intro p h hs)
      | (refine r_newAt0 hs rfl rfl ?_; intro p h hs)
      | (refine r_bxAt hs rfl rfl ?_; intro p h hs)
      | (refine r_bxAt0 hs rfl rfl ?_; intro p h hs)
      | (refine r_boxAt hs rfl rfl rfl ?_; intro p h hs)
      | (refine r_boxAt0 hs rfl rfl rfl ?_; intro p h hs)
      | (refine r_newS hs rfl rfl rfl ?_; intro a h hs)
      | (refine r_newSAt hs rfl rfl rfl rfl rfl ?_; intro a h hs)
      | (refine r_newSAt0 hs rfl rfl rfl rfl rfl ?_; intro a h hs)
      | refine r_addI (by omega) ?_
      | refine r_subI (by omega) ?_
      | refine r_brT (by omega) ?_
      | refine r_brF (by omega) ?_
      | refine r_nilF ?_
      | refine r_fill rfl ?_
      | exact veq_P
      | exact veq_I
      | exact veq_B
      | exact veq_S
      | refine r_fl ?_ ?_
      | (refine r_marks hs ?_; intro d h hs)
      | (refine r_setv hs ?_; intro h hs)
      | (refine r_beginv hs ?_; intro h hs)
      | refine r_defersv hs ?_
      | refine r_cm0 ?_
      | (refine r_cm1 hs ?_; intro h hs)
    refine hk _ _ ?_
    have hs := notes1 (n := r.grantN line 1 d) rfl hs
    exact (row_shut b o { r with sh := updB r.sh r.served.core true, granted := true } wa wc hs rfl rfl rfl).to
end
theorem updA_mem {H : Hom} {l : Nat} : updA (fun i => (H i).2) l (H l).2 = fun i => (H i).2 := updA_self
theorem grant_ok {C : Cfg} (hC : C.Ok) {hb l : Nat} {H : Hom} {Q : Value → AH → Prop} (hlim : Ob G 0 limE) (hs : Hs G h L) [m : Has (homR G hb C) L H L'] (hl : l < C.lines) (hc : 0 ≤ (H l).1.served.core ∧ (H l).1.served.core < 4)
    (hk : ∀ v h', Hs G h' (notesR v ((H l).1.grant l ((H l).1.dat (H l).2)).2 :: homR G hb C (updA H l (((H l).1.grant l ((H l).1.dat (H l).2)).1, (H l).2)) :: L') → Q v h') :
    Cl Pr K 47 [pt hb 0 0, I l] h Q := by
  obtain ⟨mb, b, o, cap, hs⟩ := hom_row hl (m.of hs)
  refine c47 (b47_0 ?_)
  have key : ∀ d, d = (H l).1.dat (H l).2 → ∀ p wa wc h, Hs G h (seg p 0 ((H l).1.grantN l 0 d).enc :: seg b (o + l * 25) ((H l).1.enc wa wc) :: slc 9 38 wa wc ((H l).1.waits.length, encNs (H l).1.waits) :: seg hb 0 (homE mb C b o cap) :: memN G C.lines mb C (fun i => (H i).2) :: hole G 25 73 (some ⟨b, o, none⟩) cap C.lines b o :: homX b o C.lines H l :: L') →
      (((H l).1.served.kind = 2 → A47_3 Q (pt b (o + l * 25) 0) (I (H l).1.served.core) (pt p 0 0) h) ∧ ((H l).1.served.kind ≠ 2 → A47_4 Q (pt b (o + l * 25) 0) (I (H l).1.served.core) (pt p 0 0) h)) := by
    intro d hd p wa wc h hs
    subst hd
    have hk' : ∀ v h', Hs G h' (notesR v ((H l).1.grant l ((H l).1.dat (H l).2)).2 :: rowR b (o + l * 25) ((H l).1.grant l ((H l).1.dat (H l).2)).1 :: seg hb 0 (homE mb C b o cap) :: memN G C.lines mb C (fun i => (H i).2) :: hole G 25 73 (some ⟨b, o, none⟩) cap C.lines b o :: homX b o C.lines H l :: L') → Q v h' := fun v h' hs =>
      hk v h' (hom_shut hb C H l ((H l).1.grant l ((H l).1.dat (H l).2)).1 (H l).2 (fun i => (H i).2) mb b o cap hl updA_mem.symm hs).to
    exact ⟨fun hkd => grant_M hkd hs hk', fun hkd => grant_S hkd hc hs hk'⟩
  obtain ⟨wa, wc, hs⟩ := rowR_open hs
  refine r_nilP (r_padd (r_ld hs rfl (r_idxN hl (r_nilP (r_padd (r_padd (r_ld hs rfl ?_)))))))
  refine r_resv hs ?_
  intro rv h hs
  refine r_nilP (r_padd (r_ld hs rfl (r_nilP (r_padd (r_ldN hs (by decide) (l := [I (H l).1.d0, I (H l).1.d1]) rfl rfl (r_fill (c := ((H l).1.grantN l 0 ((H l).1.d0, (H l).1.d1)).enc) rfl ?_))))))
  refine r_newAt hs rfl rfl ?_
  intro p h hs
  refine r_stW hs rfl rfl rfl rfl ?_
  intro h hs
  refine r_nilP (r_padd (r_ld hs rfl (r_not (r_brn (r_brb (fun ht => ?_) (fun ht => ?_))))))
  · refine b47_2 (r_nilP (r_padd (r_padd (r_ld hs rfl (r_eqI ?_)))))
    have := key ((H l).1.d0, (H l).1.d1) (by simp [Row.dat, ht]) p wa wc h hs.to
    exact r_br this.1 this.2
  · refine b47_1 (r_nilP (r_padd (r_ld hs rfl (read_ok hC hlim hs hl fun h hs => ?_))))
    refine r_ext rfl (r_ext rfl (r_padd (r_sto hs rfl rfl rfl rfl ?_)))
    intro h hs
    refine r_nilP (r_padd (r_padd (r_ld hs rfl (r_eqI ?_))))
    have := key (H l).2 (by simp [Row.dat, ht]) p wa wc h (hs.sg (b := p) (o := 0) (c := ((H l).1.grantN l 0 (H l).2).enc) rfl).to
    exact r_br this.1 this.2
end Go.Proofs.YtagcnlaofkfpjaaDoor
end
section
namespace Go.Proofs.YtagcnlaofkfpjaaDoor
open Go Go.Ab Go.Hm
attribute [local irreducible] thn Br ld1 ldN stV alc alcAt alcS alcSAt resv padd nilV extV part1 partN lenS lenT biI biT biB biP biS biF biE biA unV idxS idxA pickV appV copyV clearV slS slA slT mkS blkOf at1 atN atS convI convS minV maxV Cl OkF OkR EndX endV beginV defersOf setLoop closeMarks
variable {G : Bg} {h : AH} {L L' : List HP}
/-! slices.Values -/
def valR (e : TypeId) (p : Nat) (a : Option Addr) (c : Nat) (xs : List Int) : HP := sp [seg p 0 [.slice a xs.length c], slc 1 e a c (xs.length, xs.map I)]
theorem values_ok {e : TypeId} {a : Option Addr} {c n : Nat} {xs : List Int} {Q : Value → AH → Prop} (hn : n = xs.length) (hs : Hs G h L) [m : Has (slc 1 e a c) L (n, xs.map I) L'] (hk : ∀ p h', Hs G h' (valR e p a c xs :: L') → Q (.func (.func 60) #[] #[pt p 0 0]) h') : Cl Pr K 49 [.slice a n c] h Q := by
  subst hn
  have hs := m.of hs
  refine c49 (b49_0 (r_bx hs ?_))
  intro p h hs
  exact hk p _ (Hs.pack (A := [_, _]) hs)
theorem values_y {e : TypeId} {p : Nat} {a : Option Addr} {c : Nat} {xs : List Int} (hx : xs.length < 2 ^ 62) : Yds Pr K G 60 [] [pt p 0 0] (valR e p a c xs) (xs.map fun x => [I x]) := by
  intro I' J y L h Q hs hy h1 h2
  refine c60 (b60_0 ?_)
  refine r_ld hs.unpack rfl (r_lenS ?_)
  have loop : ∀ (f i : Nat) (h : AH), i + f = xs.length → Hs G h (valR e p a c xs :: I' ((xs.drop i).map fun x => [I x]) :: L) → A60_1 Q y (.slice a xs.length c) (I xs.length) (I i) h := by
    intro f
    induction f with
    | zero =>
      intro i h hi hs
      refine b60_1 (r_ltI (r_brF (by omega) ?_))
      rw [List.drop_eq_nil_of_le (by omega)] at hs
      exact h1 _ _ hs
    | succ f ih =>
      intro i h hi hs
      have hlt : i < xs.length := by omega
      refine b60_1 (r_ltI (r_brT (by omega) (b60_2 ?_)))
      obtain ⟨b, o, rfl, H, hs2, _⟩ := (hs.unpack.front (slc 1 e a c (xs.length, xs.map I))).slcOpen (by omega)
      refine r_idxN hlt (r_ldI hs2 (v := I xs[i]) (by simp [hlt]) ?_)
      rw [List.drop_eq_getElem_cons hlt] at hs
      refine (hy _ _ h _ hs.at2).mono fun v h' hv => ?_
      rcases hv with ⟨rfl, hs⟩ | ⟨rfl, hs⟩
      · exact r_not (r_brf (b60_3 (r_addI (by omega) (ih (i + 1) h' (by omega) hs.at2))))
      · exact r_not (r_brt (h2 _ _ hs.at2))
  exact loop xs.length 0 h (by omega) hs
/-! a Reply -/
section
variable {hb p mb b o cap l : Nat} {C : Cfg} {H : Hom} {n : Note} {r : Row} {m : Ln} {Q : Value → AH → Prop}
def tailL (G : Bg) (hb p mb b o cap l : Nat) (C : Cfg) (H : Hom) (n : Note) (r : Row) (m : Ln) : List HP :=
  [rowR b (o + l * 25) r, seg p 0 n.enc, seg hb 0 (homE mb C b o cap), memN G C.lines mb C (updA (fun i => (H i).2) l m), hole G 25 73 (some ⟨b, o, none⟩) cap C.lines b o, homX b o C.lines H l]
theorem rest_7 (hC : C.Ok) (hlim : Ob G 0 limE) (hl : l < C.lines) (hnl : n.line = l) (hc : 0 ≤ r.served.core ∧ r.served.core < 4) (hq : r.quiet = true) (hs : Hs G h (tailL G hb p mb b o cap l C H n r m ++ L))
    (hk : ∀ v h', Hs G h' (notesR v (r.rest l m).2 :: homR G hb C (updA H l ((r.rest l m).1, m)) :: L) → Q v h') : A30_7 Q (pt hb 0 0) (pt p 0 0) (pt b (o + l * 25) 0) h := by
  simp only [tailL, List.cons_append, List.nil_append] at hs
  simp only [Row.rest, if_pos hq] at hk
  have hs0 := hs
  obtain ⟨wa, wc, hs⟩ := rowR_open (show Hs G h (rowR b (o + l * 25) r :: _) from hs)
  refine b30_7 (r_nilP (r_padd (r_padd (r_ld hs rfl (r_eqI (r_br (fun h1 => ?_) (fun h1 => ?_)))))))
  · rw [if_pos h1] at hk
    refine b30_9 (free_ok hs0 fun h hs => hk _ _ ?_)
    exact (notes0 (hom_shut hb C H l r.free m _ mb b o cap hl rfl hs)).to
  · rw [if_neg h1] at hk
    refine r_padd (r_ld hs rfl ?_)
    rw [hnl]
    have hs := hom_shut hb C H l r m _ mb b o cap hl rfl hs0
    refine grant_ok hC hlim hs hl (by simp only [updA_same]; exact hc) fun v h hs => hk _ _ ?_
    simp only [updA_same, updA_twice] at hs
    exact hs.to
theorem rest_4 (hC : C.Ok) (hlim : Ob G 0 limE) (hl : l < C.lines) (hnl : n.line = l) (hc : 0 ≤ r.served.core ∧ r.served.core < 4) (hs : Hs G h (tailL G hb p mb b o cap l C H n r m ++ L))
    (hk : ∀ v h', Hs G h' (notesR v (r.rest l m).2 :: homR G hb C (updA H l ((r.rest l m).1, m)) :: L) → Q v h') : A30_4 Q (pt hb 0 0) (pt p 0 0) (pt b (o + l * 25) 0) h := by
  have hs00 := hs
  simp only [tailL, List.cons_append, List.nil_append] at hs
  have hs0 := hs
  obtain ⟨wa, wc, hs⟩ := rowR_open (show Hs G h (rowR b (o + l * 25) r :: _) from hs)
  refine b30_4 (r_nilP (r_padd (r_ldN hs (by decide) (l := [.bool (r.asked 0), .bool (r.asked 1), .bool (r.asked 2), .bool (r.asked 3)]) rfl rfl (r_fill (c := [.bool false, .bool false, .bool false, .bool false]) rfl (r_neA (r_brb (fun hq => ?_) (fun hq => ?_)))))))
  · have hq : r.quiet = false := by unfold Row.quiet; rw [hq]; rfl
    simp only [Row.rest, hq, Bool.false_eq_true, if_false] at hk
    refine hk _ _ ?_
    exact (notes0 (hom_shut hb C H l r m _ mb b o cap hl rfl (show Hs G h (rowR b (o + l * 25) r :: _) from hs0))).to
  · have hq : r.quiet = true := by unfold Row.quiet; rw [hq]; rfl
    exact rest_7 hC hlim hl hnl hc hq hs00 hk
end
end Go.Proofs.YtagcnlaofkfpjaaDoor
end
section
namespace Go.Proofs.YtagcnlaofkfpjaaDoor
open Go Go.Ab Go.Hm
attribute [local irreducible] thn Br ld1 ldN stV alc alcAt alcS alcSAt resv padd nilV extV part1 partN lenS lenT biI biT biB biP biS biF biE biA unV idxS idxA pickV appV copyV clearV slS slA slT mkS blkOf at1 atN atS convI convS minV maxV Cl OkF OkR EndX endV beginV defersOf setLoop closeMarks
variable {G : Bg} {h : AH} {L L' : List HP}
section
variable {hb p mb b o cap l : Nat} {C : Cfg} {H : Hom} {n : Note} {r : Row} {m : Ln} {Q : Value → AH → Prop}
theorem rest_8 (hC : C.Ok) (hlim : Ob G 0 limE) (hl : l < C.lines) (hnl : n.line = l) (hc : 0 ≤ r.served.core ∧ r.served.core < 4) (hs : Hs G h (tailL G hb p mb b o cap l C H n r m ++ L))
    (hk : ∀ v h', Hs G h' (notesR v ((r.heard3 n).rest l m).2 :: homR G hb C (updA H l (((r.heard3 n).rest l m).1, m)) :: L) → Q v h') : A30_8 Q (pt hb 0 0) (pt p 0 0) (pt b (o + l * 25) 0) h := by
  simp only [tailL, List.cons_append, List.nil_append] at hs
  obtain ⟨wa, wc, hs⟩ := rowR_open hs
  refine b30_8 (r_resv hs ?_)
  intro rv h hs
  refine r_padd (r_ldN hs (by decide) (l := [I n.d0, I n.d1]) rfl rfl (r_nilP (r_padd (r_sto hs rfl rfl rfl rfl ?_))))
  intro h hs
  have hs1 := hs
  refine r_nilP (r_padd (r_sto hs rfl rfl rfl rfl ?_))
  intro h hs
  refine r_fl veq_P (r_fl (r_padd veq_P) (r_fl (r_ldN hs1 (by decide) (l := [I n.d0, I n.d1]) rfl rfl (veq_agg (by simp [veq]))) ?_))
  have hs := row_shut b (o + l * 25) (r.heard3 n) wa wc hs rfl rfl rfl
  have hs : Hs G h (tailL G hb p mb b o cap l C H n (r.heard3 n) m ++ L) := by
    simp only [tailL, List.cons_append, List.nil_append]
    exact hs.to
  have hs00 := hs
  simp only [tailL, List.cons_append, List.nil_append] at hs
  have hs0 := hs
  obtain ⟨wa, wc, hs⟩ := rowR_open hs
  refine (r_nilP (r_padd (r_ldN hs (by decide) (l := [.bool (r.asked 0), .bool (r.asked 1), .bool (r.asked 2), .bool (r.asked 3)]) rfl rfl (r_fill (c := [.bool false, .bool false, .bool false, .bool false]) rfl (r_neA (r_brb (fun hq => ?_) (fun hq => ?_)))))))
  · have hq : (r.heard3 n).quiet = false := by unfold Row.quiet; rw [show (r.heard3 n).asked = r.asked from rfl, hq]; rfl
    simp only [Row.rest, hq, Bool.false_eq_true, if_false] at hk
    exact hk _ _ (notes0 (hom_shut hb C H l (r.heard3 n) m _ mb b o cap hl rfl hs0)).to
  · exact rest_7 (r := r.heard3 n) hC hlim hl hnl hc (by unfold Row.quiet; rw [show (r.heard3 n).asked = r.asked from rfl, hq]; rfl) hs00 hk
end
theorem reply_ok {C : Cfg} (hC : C.Ok) {hb l : Nat} {H : Hom} {n : Note} {Q : Value → AH → Prop} (hlim : Ob G 0 limE) (hs : Hs G h L) [m : Has (homR G hb C) L H L'] (hl : l < C.lines) (hnl : n.line = l) (hnc : 0 ≤ n.core ∧ n.core < 4) (hc : 0 ≤ (H l).1.served.core ∧ (H l).1.served.core < 4)
    (hk : ∀ v h', Hs G h' (notesR v (Lin.reply (H l) l n).2 :: homR G hb C (updA H l (Lin.reply (H l) l n).1) :: L') → Q v h') :
    Cl Pr K 30 [pt hb 0 0, .agg ⟨n.enc⟩] h Q := by
  have hs := m.of hs
  simp only [Lin.reply] at hk
  refine c30 (b30_0 (r_bx hs ?_))
  intro p h hs
  refine r_resv hs ?_
  intro rv h hs
  obtain ⟨mb, b, o, cap, hs⟩ := hom_row hl (hs.front (homR G hb C H))
  obtain ⟨wa, wc, hs⟩ := rowR_open hs
  refine r_nilP (r_padd (r_ld hs rfl (r_padd (r_ld hs rfl ?_))))
  rw [hnl]
  refine r_idxN hl (r_resv hs ?_)
  intro rv2 h hs
  refine r_padd (r_ld hs rfl (r_nilP (r_padd (r_idxA hnc.1 hnc.2 (r_stAk (H l).1 hs rfl hnc ?_)))))
  intro h hs
  have hs0 := row_shut b (o + l * 25) ((H l).1.heard1 n) wa wc hs rfl rfl rfl
  refine r_nilP (r_padd (r_padd (r_ld hs rfl (r_neI (r_br (fun h1 => b30_1 ?_) (fun h1 => b30_2 ?_))))))
  · -- no reader: it leaves
    simp only [Row.heard, if_pos h1] at hk
    unfold Row.heardM at hk
    refine r_padd (r_ld hs0 rfl (leave_ok hs0 hnc fun h hs => ?_))
    refine r_padd (r_ld hs rfl (r_brb (fun h2 => b30_3 ?_) (fun h2 => ?_)))
    · rw [if_pos ⟨h1, h2⟩] at hk
      refine r_resv hs ?_
      intro rv3 h hs
      refine r_nilP (r_padd (r_ld hs rfl (r_padd (r_ld hs rfl ?_))))
      rw [hnl]
      refine r_padd (r_ldN hs (by decide) (l := lnE (n.d0, n.d1)) rfl rfl (write_ok hC hlim hs hl fun h hs => ?_))
      generalize hr : ((H l).1.heard1 n).leave n.core = r2 at hs hk
      have hc2 : 0 ≤ r2.served.core ∧ r2.served.core < 4 := by rw [← hr]; exact hc
      have hs : Hs G h (tailL G hb p mb b o cap l C H n r2 (n.d0, n.d1) ++ L') := by
        simp only [tailL, List.cons_append, List.nil_append]
        exact hs.to
      have hs00 := hs
      simp only [tailL, List.cons_append, List.nil_append] at hs
      have hs0 := hs
      obtain ⟨wa, wc, hs⟩ := rowR_open hs
      refine (r_nilP (r_padd (r_ldN hs (by decide) (l := [.bool (r2.asked 0), .bool (r2.asked 1), .bool (r2.asked 2), .bool (r2.asked 3)]) rfl rfl (r_fill (c := [.bool false, .bool false, .bool false, .bool false]) rfl (r_neA (r_brb (fun hq => ?_) (fun hq => ?_)))))))
      · have hq : r2.quiet = false := by unfold Row.quiet; rw [hq]; rfl
        simp only [Row.rest, hq, Bool.false_eq_true, if_false] at hk
        exact hk _ _ (notes0 (hom_shut hb C H l r2 (n.d0, n.d1) _ mb b o cap hl rfl hs0)).to
      · exact rest_7 hC hlim hl hnl hc2 (by unfold Row.quiet; rw [hq]; rfl) hs00 hk
    · rw [if_neg (by rw [h2]; simp)] at hk
      generalize hr : ((H l).1.heard1 n).leave n.core = r2 at hs hk
      have hc2 : 0 ≤ r2.served.core ∧ r2.served.core < 4 := by rw [← hr]; exact hc
      refine rest_4 hC hlim hl hnl hc2 (m := (H l).2) (H := H) (mb := mb) (b := b) (o := o) (cap := cap) (L := L') ?_ hk
      simp only [tailL, List.cons_append, List.nil_append, updA_mem]
      exact hs.to
  · have hm : (H l).1.heardM (H l).2 n = (H l).2 := by unfold Row.heardM; rw [if_neg (fun e => h1 e.1)]
    simp only [Row.heard, if_neg h1, hm] at hk
    refine r_padd (r_ld hs rfl (r_neI (r_br (fun h2 => b30_5 ?_) (fun h2 => b30_6 ?_))))
    · simp only [if_pos h2] at hk
      refine r_nilP (r_padd (r_sto hs rfl rfl rfl rfl ?_))
      intro h hs
      refine r_resv hs ?_
      intro rv3 h hs
      refine r_padd (r_ld hs rfl (r_padd (r_ld hs rfl (valid_ok ?_))))
      have hs1 := hs
      refine r_nilP (r_padd (r_idxA hnc.1 hnc.2 (r_stSh { (H l).1.heard1 n with owner := -1 } hs rfl hnc ?_)))
      intro h hs
      refine r_fl veq_P (r_fl (r_padd veq_P) (r_fl (r_ld hs1 rfl veq_I) (r_fl (r_nilP veq_P) (r_fl (r_padd veq_P) ?_))))
      have hs0 := row_shut b (o + l * 25) (((H l).1.heard1 n).heard2 n) wa wc hs rfl rfl rfl
      refine r_padd (r_ld hs rfl (r_brb (fun h3 => ?_) (fun h3 => ?_)))
      · simp only [h3, if_true] at hk
        refine rest_8 (r := ((H l).1.heard1 n).heard2 n) hC hlim hl hnl hc (m := (H l).2) (H := H) (mb := mb) (b := b) (o := o) (cap := cap) (L := L') ?_ hk
        simp only [tailL, List.cons_append, List.nil_append, updA_mem]
        exact hs0.to
      · simp only [h3, Bool.false_eq_true, if_false] at hk
        refine rest_4 (r := ((H l).1.heard1 n).heard2 n) hC hlim hl hnl hc (m := (H l).2) (H := H) (mb := mb) (b := b) (o := o) (cap := cap) (L := L') ?_ hk
        simp only [tailL, List.cons_append, List.nil_append, updA_mem]
        exact hs0.to
    · simp only [if_neg h2] at hk
      refine r_padd (r_ld hs rfl (r_brb (fun h3 => ?_) (fun h3 => ?_)))
      · simp only [h3, if_true] at hk
        refine rest_8 (r := (H l).1.heard1 n) hC hlim hl hnl hc (m := (H l).2) (H := H) (mb := mb) (b := b) (o := o) (cap := cap) (L := L') ?_ hk
        simp only [tailL, List.cons_append, List.nil_append, updA_mem]
        exact hs0.to
      · simp only [h3, Bool.false_eq_true, if_false] at hk
        refine rest_4 (r := (H l).1.heard1 n) hC hlim hl hnl hc (m := (H l).2) (H := H) (mb := mb) (b := b) (o := o) (cap := cap) (L := L') ?_ hk
        simp only [tailL, List.cons_append, List.nil_append, updA_mem]
        exact hs0.to
end Go.Proofs.YtagcnlaofkfpjaaDoor
end
section
namespace Go.Proofs.YtagcnlaofkfpjaaDoor
open Go Go.Ab Go.Hm
attribute [local irreducible] thn Br ld1 ldN stV alc alcAt alcS alcSAt resv padd nilV extV part1 partN lenS lenT biI biT biB biP biS biF biE biA unV idxS idxA pickV appV copyV clearV slS slA slT mkS blkOf at1 atN atS convI convS minV maxV Cl OkF OkR EndX endV beginV defersOf setLoop closeMarks
variable {G : Bg} {h : AH} {L L' : List HP}
/-- all holders but one are asked -/
theorem probeH_ok {b o : Nat} {line state x : Int} {r : Row} {Q : Value → AH → Prop} (hs : Hs G h L) [m : Has (rowR b o) L r L'] (hk : ∀ v h', Hs G h' (notesR v (probes line state (r.holders x)) :: rowR b o (r.askAll (r.holders x)) :: L') → Q v h') :
    Cl Pr K 37 [pt b o 0, I x] h fun v h' => Cl Pr K 36 [pt b o 0, I line, I state, v] h' Q := by
  refine holders_ok (m.of hs) fun p q h hs => ?_
  have hs := rowR_split (hs.front (rowR b o r))
  refine probe_ok (G := G) (r := r) (A := hold2 b o p q x r) (L := L') holders_y holders_lt holders_len (by kernel_rfl) ?_ fun v h hs => hk v h ?_
  · simp only [hold2]
    exact hs.to
  · have hs := hs.at2.unpack
    have hs : Hs G h (rowA b o r :: rowB b o (r.askAll (r.holders x)) :: notesR v (probes line state (r.holders x)) :: L') := hs.to
    exact (rowR_join (r := r.askAll (r.holders x)) hs).at2
/-- a core is asked -/
theorem probe1_ok {b o : Nat} {line state : Int} {e : TypeId} {a : Option Addr} {c : Nat} {r : Row} {x : Int} {cs : List Value} {Q : Value → AH → Prop} (hx : 0 ≤ x ∧ x < 4) (hs : Hs G h L) [m : Has (slc 1 e a c) L (1, cs) L'] (hcs : cs = [I x]) {M : List HP} [m2 : Has (rowR b o) L' r M] (hk : ∀ v h', Hs G h' (notesR v (probes line state [x.toNat]) :: rowR b o (r.askAll [x.toNat]) :: M) → Q v h') :
    Cl Pr K 49 [.slice a 1 c] h fun v h' => Cl Pr K 36 [pt b o 0, I line, I state, v] h' Q := by
  subst hcs
  have hs : Hs G h (slc 1 e a c (1, [x].map I) :: rowR b o r :: M) := hs.perm (m.perm.trans (m2.perm.cons _))
  refine values_ok (e := e) (xs := [x]) rfl hs fun p h hs => ?_
  have hs := rowR_split (hs.front (rowR b o r))
  have hy : Yds Pr K G 60 [] [pt p 0 0] (valR e p a c [x]) ([x.toNat].map fun (c : Nat) => [I c]) := by
    have := values_y (G := G) (e := e) (p := p) (a := a) (c := c) (xs := [x]) (by simp)
    simp only [List.map_cons, List.map_nil, Int.toNat_of_nonneg hx.1] at this ⊢
    exact this
  refine probe_ok (G := G) (r := r) (A := valR e p a c [x]) (L := rowA b o r :: M) hy (fun c hc => by simp at hc; omega) (by simp) (by kernel_rfl) ?_ fun v h hs => hk v h ?_
  · exact hs.to
  · have hs : Hs G h (rowA b o r :: rowB b o (r.askAll [x.toNat]) :: notesR v (probes line state [x.toNat]) :: M) := hs.to
    exact (rowR_join (r := r.askAll [x.toNat]) hs).at2
end Go.Proofs.YtagcnlaofkfpjaaDoor
end
section
namespace Go.Proofs.YtagcnlaofkfpjaaDoor
open Go Go.Ab Go.Hm
attribute [local irreducible] thn Br ld1 ldN stV alc alcAt alcS alcSAt resv padd nilV extV part1 partN lenS lenT biI biT biB biP biS biF biE biA unV idxS idxA pickV appV copyV clearV slS slA slT mkS blkOf at1 atN atS convI convS minV maxV Cl OkF OkR EndX endV beginV defersOf setLoop closeMarks
variable {G : Bg} {h : AH} {L L' : List HP}
theorem get_ok {C : Cfg} (hC : C.Ok) {hb l : Nat} {H : Hom} {n : Note} {world : Int} {Q : Value → AH → Prop} (hlim : Ob G 0 limE) (hs : Hs G h L) [m : Has (homR G hb C) L H L'] (hl : l < C.lines) (hnc : 0 ≤ n.core ∧ n.core < 4) (how : -1 ≤ (H l).1.owner ∧ (H l).1.owner < 4)
    (hk : ∀ v h', Hs G h' (notesR v ((H l).1.get l (H l).2 n world).2 :: homR G hb C (updA H l (((H l).1.get l (H l).2 n world).1, (H l).2)) :: L') → Q v h') :
    Cl Pr K 34 [pt hb 0 0, I l, I world, .agg ⟨n.enc⟩] h Q := by
  have hs := m.of hs
  simp only [Row.get] at hk
  refine c34 (b34_0 (r_bx hs ?_))
  intro p h hs
  obtain ⟨mb, b, o, cap, hs⟩ := hom_row hl (hs.front (homR G hb C H))
  obtain ⟨wa, wc, hs⟩ := rowR_open hs
  refine r_nilP (r_padd (r_ld hs rfl (r_idxN hl (r_resv hs ?_))))
  intro rv h hs
  refine r_ldN hs (by decide) (l := n.enc) rfl rfl (r_nilP (r_padd (r_sto hs rfl rfl rfl rfl ?_)))
  intro h hs
  have hs1 := hs
  refine r_nilP (r_padd (r_sto hs rfl rfl rfl rfl ?_))
  intro h hs
  refine r_nilP (r_padd (r_sto hs rfl rfl rfl rfl ?_))
  intro h hs
  refine r_fl veq_P (r_fl veq_P (r_fl veq_P (r_fl (r_ldN hs1 (by decide) (l := n.enc) rfl rfl (veq_agg (by simp [veq, Note.enc]))) (r_fl veq_I (r_fl veq_I ?_)))))
  refine r_padd (r_ld hs rfl (r_eqI ?_))
  have hs := row_shut b (o + l * 25) ((H l).1.serve n world) wa wc hs rfl rfl rfl
  have hsc : ((H l).1.serve n world).served.core = n.core := rfl
  have how : -1 ≤ ((H l).1.serve n world).owner ∧ ((H l).1.serve n world).owner < 4 := how
  generalize hr : (H l).1.serve n world = r at hs hk hsc how
  -- a grant
  have grant : ∀ (r2 : Row), r2.served.core = n.core → ∀ h, Hs G h (rowR b (o + l * 25) r2 :: seg hb 0 (homE mb C b o cap) :: memN G C.lines mb C (fun i => (H i).2) :: hole G 25 73 (some ⟨b, o, none⟩) cap C.lines b o :: homX b o C.lines H l :: L') →
      (∀ v h', Hs G h' (notesR v (r2.grant l (r2.dat (H l).2)).2 :: homR G hb C (updA H l ((r2.grant l (r2.dat (H l).2)).1, (H l).2)) :: L') → Q v h') → Cl Pr K 47 [pt hb 0 0, I l] h Q := fun r2 hc2 h hs hk => by
    have hs := hom_shut hb C H l r2 (H l).2 _ mb b o cap hl updA_mem.symm hs
    refine grant_ok hC hlim hs hl (by simp only [updA_same, hc2]; exact hnc) fun v h hs => hk _ _ ?_
    simp only [updA_same, updA_twice] at hs
    exact hs.to
  -- probes
  have probe : ∀ (r2 : Row) (N : List Note) v h, Hs G h (notesR v N :: rowR b (o + l * 25) r2 :: seg hb 0 (homE mb C b o cap) :: memN G C.lines mb C (fun i => (H i).2) :: hole G 25 73 (some ⟨b, o, none⟩) cap C.lines b o :: homX b o C.lines H l :: L') → Hs G h (notesR v N :: homR G hb C (updA H l (r2, (H l).2)) :: L') := fun r2 N v h hs =>
    (hom_shut hb C H l r2 (H l).2 _ mb b o cap hl updA_mem.symm hs).to
  refine r_br (fun h1 => ?_) (fun h1 => ?_)
  · simp only [if_pos h1, Row.getM, hsc] at hk
    refine b34_1 (r_padd (r_ld hs rfl (first_ok hs fun hs => r_neI (r_br (fun h2 => ?_) (fun h2 => ?_)))))
    · rw [if_pos h2] at hk
      refine r_padd (r_ld hs rfl (probeH_ok hs fun v h hs => hk _ _ ?_))
      exact probe _ _ _ _ hs.to
    · rw [if_neg h2] at hk
      exact grant r hsc _ hs.to hk
  · simp only [if_neg h1, Row.getS] at hk
    refine b34_2 (r_resv hs ?_)
    intro rv2 h hs
    obtain ⟨wa, wc, hs⟩ := rowR_open (hs.front (rowR b (o + l * 25) r))
    refine r_nilP (r_padd (r_ld hs rfl (r_padd (r_ld hs rfl (r_eqI (r_br (fun h2 => b34_3 ?_) (fun h2 => b34_4 ?_)))))))
    · have hu : r.unown = { r with owner := -1 } := by unfold Row.unown; rw [if_pos (by rw [hsc]; exact h2)]
      rw [hu] at hk
      simp only [ne_eq, not_true_eq_false, if_false] at hk
      refine r_nilP (r_padd (r_sto hs rfl rfl rfl rfl ?_))
      intro h hs
      refine r_nilP (r_padd (r_ld hs rfl (r_neI (r_brF (by simp) ?_))))
      have hs := row_shut b (o + l * 25) { r with owner := -1 } wa wc hs rfl rfl rfl
      exact grant { r with owner := -1 } hsc _ hs.to hk
    · have hu : r.unown = r := by unfold Row.unown; rw [if_neg (by rw [hsc]; exact h2)]
      rw [hu] at hk
      refine r_nilP (r_padd (r_ld hs rfl (r_neI (r_br (fun h3 => ?_) (fun h3 => ?_)))))
      · rw [if_pos h3] at hk
        refine r_nilP (r_padd (r_ld hs rfl (r_fill (c := [I r.owner]) rfl (r_newS hs rfl rfl rfl ?_))))
        intro a h hs
        have hs := row_shut b (o + l * 25) r wa wc hs rfl rfl rfl
        refine probe1_ok (e := 3) (by omega) hs rfl fun v h hs => hk _ _ ?_
        exact probe _ _ _ _ hs.to
      · rw [if_neg h3] at hk
        have hs := row_shut b (o + l * 25) r wa wc hs rfl rfl rfl
        exact grant r hsc _ hs.to hk
end Go.Proofs.YtagcnlaofkfpjaaDoor
end
section
namespace Go.Proofs.YtagcnlaofkfpjaaDoor
open Go Go.Ab Go.Hm
attribute [local irreducible] thn Br ld1 ldN stV alc alcAt alcS alcSAt resv padd nilV extV part1 partN lenS lenT biI biT biB biP biS biF biE biA unV idxS idxA pickV appV copyV clearV slS slA slT mkS blkOf at1 atN atS convI convS minV maxV Cl OkF OkR EndX endV beginV defersOf setLoop closeMarks
variable {G : Bg} {h : AH} {L L' : List HP}
theorem has_ok {C : Cfg} {hb mb b o cap : Nat} {x : Int} {Q : Value → AH → Prop} (hs : Hs G h L) [m : Has (seg hb 0) L (homE mb C b o cap) L'] (hk : Q (.bool (decide (C.has x))) h) : Cl Pr K 28 [pt hb 0 0, I x] h Q := by
  refine c28 (b28_0 (r_ptNe (r_brt (r_geI (r_br (fun h1 => ?_) (fun h1 => ?_))))))
  · refine r_nilP (r_padd (r_ld hs rfl (r_lenS (r_ltI ?_))))
    rw [show decide (x < (C.lines : Int)) = decide (C.has x) from decide_eq_decide.2 ⟨fun h => ⟨h1, h⟩, fun h => h.2⟩]
    exact hk
  · rw [show false = decide (C.has x) from (decide_eq_false (fun h => h1 h.1)).symm]
    exact hk
/-- a line's row is taken out of an opened home -/
theorem row_out {C : Cfg} {H : Hom} {b o l : Nat} (hl : l < C.lines) (hs : Hs G h L) [k : HasX (big C.lines fun i => rowR b (o + i * 25) (H i).1) L L'] : Hs G h (rowR b (o + l * 25) (H l).1 :: homX b o C.lines H l :: L') :=
  (hs.front (big C.lines fun i => rowR b (o + i * 25) (H i).1)).bigOut l hl
theorem hom_end (C : Cfg) (H : Hom) (hb mb b o cap : Nat) {L1 L2 L3 L4 : List HP} (hs : Hs G h L) [k2 : HasX (seg hb 0 (homE mb C b o cap)) L L1] [k3 : HasX (memN G C.lines mb C (fun i => (H i).2)) L1 L2]
    [k4 : HasX (hole G 25 73 (some ⟨b, o, none⟩) cap C.lines b o) L2 L3] [k5 : HasX (big C.lines fun i => rowR b (o + i * 25) (H i).1) L3 L4] : Hs G h (homR G hb C H :: L4) :=
  hom_close (mb := mb) (b := b) (o := o) (cap := cap) (hs.perm (k2.perm.trans ((k3.perm.trans ((k4.perm.trans (k5.perm.cons _)).cons _)).cons _)))
/-- one more request -/
theorem wait_ok {b o : Nat} {r : Row} {n : Note} {wa : Option Addr} {wc : Nat} {k : AH → Prop} {bytes : Nat} {a2 : Addr} (hw : r.waits.length < 2 ^ 30) (hs : Hs G h (slc 9 38 (some a2) 1 (1, n.enc) :: seg b o (r.enc wa wc) :: slc 9 38 wa wc (r.waits.length, encNs r.waits) :: L))
    (hk : ∀ h', Hs G h' (rowR b o { r with waits := r.waits ++ [n] } :: L) → k h') :
    thn (appV 9 72 38 h (.slice wa r.waits.length wc) (.slice (some a2) 1 1)) fun x => thn (stV x.2 1 (pt b o (0 + 5)) x.1) k := by
  refine r_appS (hs.front2 (slc 9 38 wa wc (r.waits.length, encNs r.waits)) (slc 9 38 (some a2) 1 (1, n.enc))) (by omega) ?_
  intro a4 c4 h hs
  dsimp only
  refine r_sto hs rfl rfl rfl rfl ?_
  intro h hs
  exact hk _ (row_shut b o { r with waits := r.waits ++ [n] } a4 c4 hs (by simp [Row.enc, setL]) (by simp) (by simp [encNs_append])).to
section
variable {C : Cfg} {hb mb b o cap p l : Nat} {H : Hom} {n : Note} {Q : Value → AH → Prop}
theorem take_6 (hC : C.Ok) (hlim : Ob G 0 limE) (hl : l < C.lines) (hnl : n.line = l) (hnc : 0 ≤ n.core ∧ n.core < 4) (hi : (H l).1.Inv) (hw : (H l).1.waits.length < 2 ^ 30)
    (hs : Hs G h (seg p 0 n.enc :: seg hb 0 (homE mb C b o cap) :: memN G C.lines mb C (fun i => (H i).2) :: hole G 25 73 (some ⟨b, o, none⟩) cap C.lines b o :: big C.lines (fun i => rowR b (o + i * 25) (H i).1) :: L))
    (hk : ∀ v h', Hs G h' (notesR v (Lin.take (H l) l n).2.1 :: homR G hb C (updA H l (Lin.take (H l) l n).1) :: L) → Q (.tuple ⟨[v, I (Lin.take (H l) l n).2.2]⟩) h') :
    A10_6 Q (pt hb 0 0) (pt p 0 0) h := by
  unfold Lin.take at hk
  refine b10_6 (r_resv hs ?_)
  intro rv h hs
  have hs := row_out (H := H) (b := b) (o := o) hl hs
  have same : ∀ h, Hs G h (rowR b (o + l * 25) (H l).1 :: homX b o C.lines H l :: seg p 0 n.enc :: seg hb 0 (homE mb C b o cap) :: memN G C.lines mb C (fun i => (H i).2) :: hole G 25 73 (some ⟨b, o, none⟩) cap C.lines b o :: L) → Hs G h (notesR (.slice none 0 0) [] :: homR G hb C (updA H l (H l)) :: L) := fun h hs =>
    notes0 ((hom_shut hb C H l (H l).1 (H l).2 _ mb b o cap hl updA_mem.symm hs).to)
  have hs0 : Hs G h (rowR b (o + l * 25) (H l).1 :: homX b o C.lines H l :: seg p 0 n.enc :: seg hb 0 (homE mb C b o cap) :: memN G C.lines mb C (fun i => (H i).2) :: hole G 25 73 (some ⟨b, o, none⟩) cap C.lines b o :: L) := hs.to
  obtain ⟨wa, wc, hs⟩ := rowR_open hs
  refine r_nilP (r_padd (r_ld hs rfl (r_padd (r_ld hs rfl ?_))))
  rw [hnl]
  refine r_idxN hl (r_padd (r_ld hs rfl (r_eqI (r_br (fun h1 => b10_8 ?_) (fun h1 => b10_9 ?_)))))
  · rw [if_pos h1] at hk
    refine r_resv hs ?_
    intro rv2 h hs
    refine r_nilP (r_padd (r_ld hs rfl (r_not (r_brn (r_brb (fun h2 => ?_) (fun h2 => ?_))))))
    · refine r_nilP (r_padd (r_padd (r_ld hs rfl (r_padd (r_ld hs rfl (r_neI (r_br (fun h3 => ?_) (fun h3 => b10_11 ?_))))))))
      · rw [if_pos (.inr h3)] at hk
        exact hk _ _ (same _ (row_shut b (o + l * 25) (H l).1 wa wc hs rfl rfl rfl).to)
      · rw [if_neg (by rw [h2]; simpa using h3)] at hk
        have hs := row_shut b (o + l * 25) (H l).1 wa wc hs rfl rfl rfl
        refine free_ok hs fun h hs => hk _ _ ?_
        exact notes0 ((hom_shut hb C H l (H l).1.free (H l).2 _ mb b o cap hl updA_mem.symm hs).to)
    · rw [if_pos (.inl h2)] at hk
      exact hk _ _ (same _ (row_shut b (o + l * 25) (H l).1 wa wc hs rfl rfl rfl).to)
  · rw [if_neg h1] at hk
    refine r_eqI (r_br (fun h2 => b10_12 ?_) (fun h2 => b10_13 ?_))
    · rw [if_pos h2] at hk
      refine r_resv hs ?_
      intro rv2 h hs
      refine r_padd (r_ld hs rfl (r_nilP (r_padd (r_idxA hnc.1 hnc.2 (r_ld hs (v := .bool ((H l).1.asked n.core.toNat)) ?_ (r_not (r_brn (r_brb (fun h3 => ?_) (fun h3 => ?_)))))))))
      · have : n.core.toNat = 0 ∨ n.core.toNat = 1 ∨ n.core.toNat = 2 ∨ n.core.toNat = 3 := by omega
        rcases this with e | e | e | e <;> rw [e] <;> rfl
      · rw [if_neg (by rw [h3]; simp)] at hk
        refine r_ldN hs (by decide) (l := n.enc) rfl rfl ?_
        have hs := row_shut b (o + l * 25) (H l).1 wa wc hs rfl rfl rfl
        have hs := hom_shut hb C H l (H l).1 (H l).2 _ mb b o cap hl updA_mem.symm hs
        rw [show updA H l ((H l).1, (H l).2) = H from updA_self] at hs
        exact reply_ok hC hlim hs hl hnl hnc hi.core fun v h hs => hk _ _ hs.to
      · rw [if_pos h3] at hk
        exact hk _ _ (same _ (row_shut b (o + l * 25) (H l).1 wa wc hs rfl rfl rfl).to)
    · rw [if_neg h2] at hk
      refine r_resv hs ?_
      intro rv2 h hs
      refine r_nilP (r_padd (r_ld hs rfl (r_ldN hs (by decide) (l := n.enc) rfl rfl (r_fill (c := n.enc) rfl ?_))))
      refine r_newSAt hs rfl rfl rfl rfl rfl ?_
      intro a h hs
      refine r_appS hs (by omega) ?_
      intro a4 c4 h hs
      dsimp only
      refine r_nilP (r_padd (r_sto hs rfl rfl rfl rfl ?_))
      intro h hs
      refine r_fl veq_P (hk _ _ ?_)
      have hs := row_shut b (o + l * 25) ((H l).1.wait n) a4 c4 hs (by simp [Row.enc, setL, Row.wait]) (by simp [Row.wait]) (by simp [encNs_append, Row.wait])
      exact notes0 ((hom_shut hb C H l ((H l).1.wait n) (H l).2 _ mb b o cap hl updA_mem.symm hs).to)
end
end Go.Proofs.YtagcnlaofkfpjaaDoor
end
section
namespace Go.Proofs.YtagcnlaofkfpjaaDoor
open Go Go.Ab Go.Hm
attribute [local irreducible] thn Br ld1 ldN stV alc alcAt alcS alcSAt resv padd nilV extV part1 partN lenS lenT biI biT biB biP biS biF biE biA unV idxS idxA pickV appV copyV clearV slS slA slT mkS blkOf at1 atN atS convI convS minV maxV Cl OkF OkR EndX endV beginV defersOf setLoop closeMarks
variable {G : Bg} {h : AH} {L L' : List HP}
section
variable {C : Cfg} {hb mb b o cap p l : Nat} {H : Hom} {n : Note} {Q : Value → AH → Prop}
theorem take_4 (hC : C.Ok) (hlim : Ob G 0 limE) (hi : HInv C H (2 ^ 30 - 1)) {t : Value}
    (hs : Hs G h (seg p 0 n.enc :: seg hb 0 (homE mb C b o cap) :: memN G C.lines mb C (fun i => (H i).2) :: hole G 25 73 (some ⟨b, o, none⟩) cap C.lines b o :: big C.lines (fun i => rowR b (o + i * 25) (H i).1) :: L)) (hkd : takes n.kind)
    (hk : ∀ v h', Hs G h' (notesR v (homTake C H n).2.1 :: homR G hb C (homTake C H n).1 :: L) → Q (.tuple ⟨[v, I (homTake C H n).2.2]⟩) h') : A10_4 Q (pt hb 0 0) (pt p 0 0) t h := by
  unfold homTake at hk
  rw [if_neg (by simpa using hkd)] at hk
  have hc4 : C.cores ≤ 4 := hC.1.2
  have no : ¬ ((0 ≤ n.core ∧ n.core < C.cores) ∧ C.has n.line) → ∀ h, Hs G h (seg p 0 n.enc :: seg hb 0 (homE mb C b o cap) :: memN G C.lines mb C (fun i => (H i).2) :: hole G 25 73 (some ⟨b, o, none⟩) cap C.lines b o :: big C.lines (fun i => rowR b (o + i * 25) (H i).1) :: L) → Q (.tuple ⟨[.slice none 0 0, I 10]⟩) h := fun hn h hs => by
    rw [if_neg hn] at hk
    exact hk _ _ (notes0 (hom_end C H hb mb b o cap hs)).to
  refine b10_4 (r_resv hs ?_)
  intro rv h hs
  refine r_padd (r_ld hs rfl (r_ltI (r_br (fun h1 => no (by omega) _ hs.to) (fun h1 => ?_))))
  refine r_padd (r_ld hs rfl (r_nilP (r_padd (r_padd (r_ld hs rfl (r_geI (r_br (fun h2 => no (by omega) _ hs.to) (fun h2 => ?_))))))))
  refine r_padd (r_ld hs rfl (has_ok hs (r_not (r_brn (r_br (fun h3 => ?_) (fun h3 => no (fun e => h3 e.2) _ hs.to))))))
  rw [if_pos ⟨by omega, h3⟩] at hk
  obtain ⟨l, hnl⟩ := Int.eq_ofNat_of_zero_le h3.1
  have hll : l < C.lines := by have := h3.2; omega
  have e : n.line.toNat = l := by omega
  rw [e] at hk
  rw [hnl] at hk
  dsimp only at hk
  exact take_6 (mb := mb) (b := b) (o := o) (cap := cap) hC hlim hll hnl (by omega) (hi l hll).1 (by have := (hi l hll).2; omega) hs.to hk
end
theorem take_ok {C : Cfg} (hC : C.Ok) {hb : Nat} {H : Hom} {n : Note} {Q : Value → AH → Prop} (hlim : Ob G 0 limE) (hi : HInv C H (2 ^ 30 - 1)) (hs : Hs G h L) [m : Has (homR G hb C) L H L']
    (hk : ∀ v h', Hs G h' (notesR v (homTake C H n).2.1 :: homR G hb C (homTake C H n).1 :: L') → Q (.tuple ⟨[v, I (homTake C H n).2.2]⟩) h') : Cl Pr K 10 [pt hb 0 0, .agg ⟨n.enc⟩] h Q := by
  refine c10 (b10_0 (r_bx (m.of hs) ?_))
  intro p h hs
  obtain ⟨mb, b, o, cap, hs⟩ := hom_open hs.at2
  have key : ∀ t, takes n.kind → A10_4 Q (pt hb 0 0) (pt p 0 0) t h := fun t hkd => take_4 (mb := mb) (b := b) (o := o) (cap := cap) hC hlim hi hs.to hkd hk
  have no : ¬ takes n.kind → Q (.tuple ⟨[.slice none 0 0, I 15]⟩) h := fun hn => by
    unfold homTake at hk
    rw [if_pos hn] at hk
    exact hk _ _ (notes0 (hom_end C H hb mb b o cap hs)).to
  refine r_ptEq (r_brf (b10_1 (r_padd (r_ld hs rfl (r_eqI (r_br (fun h1 => b10_2 (r_brT h1 (key _ (by unfold takes; omega)))) (fun h1 => b10_3 (r_eqI (r_br (fun h2 => b10_2 (r_brT h2 (key _ (by unfold takes; omega)))) (fun h2 => b10_5 ?_))))))))))
  refine r_eqI (r_br (fun h3 => b10_2 (r_brT h3 (key _ (by unfold takes; omega)))) (fun h3 => b10_7 ?_))
  refine r_eqI (r_br (fun h4 => b10_2 (r_brT h4 (key _ (by unfold takes; omega)))) (fun h4 => b10_10 ?_))
  exact r_eqI (r_br (fun h5 => key _ (by unfold takes; omega)) (fun h5 => no (by unfold takes; omega)))
theorem sweep_ok {C : Cfg} {hb : Nat} {H : Hom} {x : Int} {Q : Value → AH → Prop} (hi : HInv C H (2 ^ 30 - 1)) (hs : Hs G h L) [m : Has (homR G hb C) L H L']
    (hk : ∀ h', Hs G h' (homR G hb C (homSweep C H x).1 :: L') → Q (I (homSweep C H x).2) h') : Cl Pr K 11 [pt hb 0 0, I x] h Q := by
  obtain ⟨mb, b, o, cap, hs⟩ := hom_open (m.of hs)
  unfold homSweep at hk
  refine c11 (b11_0 (r_ptEq (r_brf (b11_1 (has_ok hs (r_not (r_brn (r_br (fun h3 => b11_2 ?_) (fun h3 => ?_)))))))))
  · rw [if_pos h3] at hk
    obtain ⟨l, rfl⟩ := Int.eq_ofNat_of_zero_le h3.1
    simp only [Lin.sweep, Int.toNat_natCast] at hk
    have hl : l < C.lines := by have := h3.2; omega
    have hs := row_out (H := H) (b := b) (o := o) hl hs
    obtain ⟨wa, wc, hs⟩ := rowR_open hs
    have hw := (hi l hl).2
    refine r_nilP (r_padd (r_ld hs rfl (r_idxN hl (r_nilP (r_padd (r_ld hs rfl (r_fill (c := (sweepN l).enc) rfl (r_fill (c := (sweepN l).enc) rfl ?_))))))))
    refine r_newS hs rfl rfl rfl ?_
    intro a h hs
    refine r_appS hs (by omega) ?_
    intro a4 c4 h hs
    dsimp only
    refine r_nilP (r_padd (r_sto hs rfl rfl rfl rfl ?_))
    intro h hs
    refine hk _ ?_
    have hs := row_shut b (o + l * 25) ((H l).1.wait (sweepN l)) a4 c4 hs (by simp [Row.enc, setL, Row.wait]) (by simp [Row.wait]) (by simp [encNs_append, Row.wait])
    exact (hom_shut hb C H l ((H l).1.wait (sweepN l)) (H l).2 _ mb b o cap hl updA_mem.symm hs).to
  · rw [if_neg h3] at hk
    exact hk _ (hom_end C H hb mb b o cap hs).to
/-- who is asked whether a world may -/
structure Judges (jv : Value) (j : Int → Int → Int × Bool) : Prop where
  ne : ∀ k : Value → Prop, k (.bool false) → thn (biE true .eql jv .nilIface) k
  may : ∀ (G : Bg) (h : AH) (L : List HP) (w l : Int) (Q : Value → AH → Prop), Hs G h L → (∀ h', Hs G h' L → Q (.tuple ⟨[I (j w l).1, .bool (j w l).2]⟩) h') → Cl Pr K 33 [jv, I w, I l] h Q
section
variable {C : Cfg} {hb mb b o cap p l : Nat} {H : Hom} {n : Note} {r : Row} {Q : Value → AH → Prop} {j : Int → Int → Int × Bool} {jv : Value}
def begL (G : Bg) (hb p mb b o cap l : Nat) (C : Cfg) (H : Hom) (n : Note) (r : Row) : List HP :=
  [rowR b (o + l * 25) r, seg p 0 n.enc, seg hb 0 (homE mb C b o cap), memN G C.lines mb C (fun i => (H i).2), hole G 25 73 (some ⟨b, o, none⟩) cap C.lines b o, homX b o C.lines H l]
theorem begin_13 (hl : l < C.lines) (hkd : n.kind ≠ 3 ∧ n.kind ≠ 1 ∧ n.kind ≠ 2) (hs : Hs G h (begL G hb p mb b o cap l C H n r ++ L)) {t : Value}
    (hk : ∀ v h', Hs G h' (notesR v (r.begun l (H l).2 n (fun w => j w l)).2 :: homR G hb C (updA H l (r.begun l (H l).2 n (fun w => j w l)).1) :: L) → Q (.tuple ⟨[v, I 0]⟩) h') : A13_13 Q (pt hb 0 0) (I l) jv (pt b (o + l * 25) 0) (pt p 0 0) t h := by
  unfold Row.begun at hk
  rw [if_neg hkd.1, if_neg (by omega)] at hk
  simp only [begL, List.cons_append, List.nil_append] at hs
  refine b13_13 (first_ok hs fun hs => r_eqI (r_br (fun h1 => ?_) (fun h1 => b13_14 (r_resv hs ?_))))
  · rw [if_pos h1] at hk
    exact hk _ _ (notes0 ((hom_shut hb C H l r (H l).2 _ mb b o cap hl updA_mem.symm hs).to))
  · rw [if_neg h1] at hk
    intro rv h hs
    refine r_ldN hs (by decide) (l := n.enc) rfl rfl ?_
    obtain ⟨wa, wc, hs⟩ := rowR_open (hs.front (rowR b (o + l * 25) r))
    refine r_nilP (r_padd (r_sto hs rfl rfl rfl rfl ?_))
    intro h hs
    have hs1 := hs
    refine r_nilP (r_padd (r_sto hs rfl rfl rfl rfl ?_))
    intro h hs
    refine r_fl veq_P (r_fl (r_ldN hs1 (by decide) (l := n.enc) rfl rfl (veq_agg (by simp [veq, Note.enc]))) ?_)
    have hs := row_shut b (o + l * 25) (r.serve0 n) wa wc hs rfl rfl rfl
    have e : (r.serve0 n).holders (-1) = r.holders (-1) := rfl
    refine probeH_ok hs fun v h hs => hk _ _ ?_
    rw [e] at hs
    exact (hom_shut hb C H l ((r.serve0 n).askAll (r.holders (-1))) (H l).2 _ mb b o cap hl updA_mem.symm hs).to
theorem begin_12 (hC : C.Ok) (hlim : Ob G 0 limE) (hj : Judges jv j) (hl : l < C.lines) (hnc : 0 ≤ n.core ∧ n.core < 4) (how : -1 ≤ r.owner ∧ r.owner < 4) (hkd : n.kind = 1 ∨ n.kind = 2) (hs : Hs G h (begL G hb p mb b o cap l C H n r ++ L))
    (hk : ∀ v h', Hs G h' (notesR v (r.begun l (H l).2 n (fun w => j w l)).2 :: homR G hb C (updA H l (r.begun l (H l).2 n (fun w => j w l)).1) :: L) → Q (.tuple ⟨[v, I 0]⟩) h') : A13_12 Q (pt hb 0 0) (I l) jv (pt p 0 0) h := by
  unfold Row.begun at hk
  rw [if_neg (by omega), if_pos hkd] at hk
  simp only [begL, List.cons_append, List.nil_append] at hs
  refine b13_12 (r_padd (r_ld hs rfl (hj.may _ _ _ _ _ _ hs fun h hs => r_ext rfl (r_ext rfl (r_not (r_brn (r_brb (fun h1 => ?_) (fun h1 => ?_))))))))
  · rw [if_pos h1] at hk
    refine r_ldN hs (by decide) (l := n.enc) rfl rfl ?_
    have hs := hom_shut hb C H l r (H l).2 _ mb b o cap hl updA_mem.symm hs
    refine get_ok hC hlim hs hl hnc (by simp only [updA_same]; exact how) fun v h hs => hk _ _ ?_
    simp only [updA_same, updA_twice] at hs
    exact hs.to
  · rw [if_neg (by rw [h1]; simp)] at hk
    refine r_padd (r_ld hs rfl (r_fill (c := (ackN 9 n.core l).enc) rfl (r_fill (c := (ackN 9 n.core l).enc) rfl (r_newS hs rfl rfl rfl ?_))))
    intro a h hs
    refine hk _ _ ?_
    have hs := notes1 (n := ackN 9 n.core l) rfl hs
    exact (hom_shut hb C H l r (H l).2 _ mb b o cap hl updA_mem.symm hs).to
theorem begin_6 (hC : C.Ok) (hlim : Ob G 0 limE) (hl : l < C.lines) (hnc : 0 ≤ n.core ∧ n.core < 4) (hkd : n.kind = 3) (hs : Hs G h (begL G hb p mb b o cap l C H n r ++ L))
    (hk : ∀ v h', Hs G h' (notesR v (r.begun l (H l).2 n (fun w => j w l)).2 :: homR G hb C (updA H l (r.begun l (H l).2 n (fun w => j w l)).1) :: L) → Q (.tuple ⟨[v, I 0]⟩) h') : A13_6 Q (pt hb 0 0) (I l) (pt b (o + l * 25) 0) (pt p 0 0) h := by
  unfold Row.begun at hk
  rw [if_pos hkd] at hk
  simp only [begL, List.cons_append, List.nil_append] at hs
  refine b13_6 (r_resv hs ?_)
  intro rv h hs
  obtain ⟨wa, wc, hs⟩ := rowR_open (hs.front (rowR b (o + l * 25) r))
  refine r_nilP (r_padd (r_ld hs rfl (r_padd (r_ld hs rfl (r_eqI (r_br (fun h1 => ?_) (fun h1 => ?_)))))))
  · have hs := row_shut b (o + l * 25) r wa wc hs rfl rfl rfl
    refine r_padd (r_ld hs rfl (r_brb (fun h2 => b13_8 (r_resv hs ?_)) (fun h2 => b13_9 ?_)))
    · rw [if_pos ⟨h1, h2⟩] at hk
      intro rv h hs
      refine r_nilP (r_padd (r_ld hs rfl (r_padd (r_ldN hs (by decide) (l := lnE (n.d0, n.d1)) rfl rfl (write_ok hC hlim hs hl fun h hs => ?_)))))
      refine r_padd (r_ld hs rfl (leave_ok hs hnc fun h hs => ?_))
      refine r_padd (r_ld hs rfl (r_fill (c := (ackN 10 n.core l).enc) rfl (r_fill (c := (ackN 10 n.core l).enc) rfl (r_newS hs rfl rfl rfl ?_))))
      intro a h hs
      refine hk _ _ ?_
      have hs := notes1 (n := ackN 10 n.core l) rfl hs
      exact (hom_shut hb C H l (r.leave n.core) (n.d0, n.d1) _ mb b o cap hl rfl hs).to
    · rw [if_neg (by rw [h2]; simp)] at hk
      refine r_padd (r_ld hs rfl (leave_ok hs hnc fun h hs => ?_))
      refine r_padd (r_ld hs rfl (r_fill (c := (ackN 10 n.core l).enc) rfl (r_fill (c := (ackN 10 n.core l).enc) rfl (r_newS hs rfl rfl rfl ?_))))
      intro a h hs
      refine hk _ _ ?_
      have hs := notes1 (n := ackN 10 n.core l) rfl hs
      exact (hom_shut hb C H l (r.leave n.core) (H l).2 _ mb b o cap hl updA_mem.symm hs).to
  · rw [if_neg (fun e => h1 e.1)] at hk
    have hs := row_shut b (o + l * 25) r wa wc hs rfl rfl rfl
    refine r_padd (r_ld hs rfl (leave_ok hs hnc fun h hs => ?_))
    refine r_padd (r_ld hs rfl (r_fill (c := (ackN 10 n.core l).enc) rfl (r_fill (c := (ackN 10 n.core l).enc) rfl (r_newS hs rfl rfl rfl ?_))))
    intro a h hs
    refine hk _ _ ?_
    have hs := notes1 (n := ackN 10 n.core l) rfl hs
    exact (hom_shut hb C H l (r.leave n.core) (H l).2 _ mb b o cap hl updA_mem.symm hs).to
end
theorem begin_ok {C : Cfg} (hC : C.Ok) {hb : Nat} {H : Hom} {x : Int} {jv : Value} {j : Int → Int → Int × Bool} {N : Nat} {Q : Value → AH → Prop} (hlim : Ob G 0 limE) (hj : Judges jv j) (hi : HInv C H N) (hs : Hs G h L) [m : Has (homR G hb C) L H L']
    (hk : ∀ v h', Hs G h' (notesR v (homBegin C H x (fun w => j w x)).2.1 :: homR G hb C (homBegin C H x (fun w => j w x)).1 :: L') → Q (.tuple ⟨[v, I (homBegin C H x (fun w => j w x)).2.2]⟩) h') : Cl Pr K 13 [pt hb 0 0, I x, jv] h Q := by
  obtain ⟨mb, b, o, cap, hs⟩ := hom_open (m.of hs)
  unfold homBegin at hk
  refine c13 (b13_0 (r_ptEq (r_brf (b13_1 (has_ok hs (r_not (r_brn (r_br (fun h3 => b13_2 (hj.ne _ (r_brf (b13_3 ?_)))) (fun h3 => ?_)))))))))
  rotate_left
  · rw [if_neg h3] at hk
    exact hk _ _ (notes0 (hom_end C H hb mb b o cap hs)).to
  rw [if_pos h3] at hk
  obtain ⟨l, rfl⟩ := Int.eq_ofNat_of_zero_le h3.1
  have hl : l < C.lines := by have := h3.2; omega
  simp only [Int.toNat_natCast] at hk
  have hs := row_out (H := H) (b := b) (o := o) hl hs
  obtain ⟨wa, wc, hs⟩ := rowR_open hs
  have same : ∀ h, Hs G h (rowR b (o + l * 25) (H l).1 :: homX b o C.lines H l :: seg hb 0 (homE mb C b o cap) :: memN G C.lines mb C (fun i => (H i).2) :: hole G 25 73 (some ⟨b, o, none⟩) cap C.lines b o :: L') → Hs G h (notesR (.slice none 0 0) [] :: homR G hb C (updA H l (H l)) :: L') := fun h hs =>
    notes0 ((hom_shut hb C H l (H l).1 (H l).2 _ mb b o cap hl updA_mem.symm hs).to)
  unfold Lin.begin at hk
  refine r_nilP (r_padd (r_ld hs rfl (r_idxN hl (r_nilP (r_padd (r_ld hs rfl (r_brb (fun h4 => ?_) (fun h4 => b13_4 ?_))))))))
  · rw [if_pos h4] at hk
    exact hk _ _ (same _ (row_shut b (o + l * 25) (H l).1 wa wc hs rfl rfl rfl).to)
  rw [if_neg (by rw [h4]; simp)] at hk
  refine r_nilP (r_padd (r_ld hs rfl (r_lenS (r_eqI (r_br (fun h5 => ?_) (fun h5 => b13_5 ?_))))))
  · have hw : (H l).1.waits = [] := List.eq_nil_of_length_eq_zero (by omega)
    rw [hw] at hk
    exact hk _ _ (same _ (row_shut b (o + l * 25) (H l).1 wa wc hs rfl rfl rfl).to)
  · cases hw : (H l).1.waits with
    | nil => rw [hw] at h5; simp at h5
    | cons n w =>
      rw [hw] at hk
      dsimp only at hk
      have hin := (hi l hl).1
      have hnc := hin.waits n (by rw [hw]; exact List.mem_cons_self)
      have hslc := hs.front (slc 9 38 wa wc ((H l).1.waits.length, encNs (H l).1.waits))
      rw [hw] at hslc
      simp only [List.length_cons, encNs_cons] at hslc
      obtain ⟨b2, o2, rfl, HH, hs2, _⟩ := hslc.slcOpen (by omega)
      refine r_nilP (r_padd (r_ld hs rfl ?_))
      rw [hw]
      refine r_idxN (i := 0) (by simp) (r_ldNI hs2 (by decide) (l := n.enc) (by simp [Note.enc]) rfl ?_)
      clear hs2
      refine r_new hslc ?_
      intro p h hs
      refine r_stW hs rfl rfl rfl rfl ?_
      intro h hs
      refine r_nilP (r_padd (r_ld hs rfl ?_))
      rw [hw]
      refine r_slTail (e := 38) hs ?_
      intro a' c' hs
      refine r_nilP (r_padd (r_sto hs rfl rfl rfl rfl ?_))
      intro h hs
      have hs := row_shut b (o + l * 25) ((H l).1.next w) a' c' hs rfl rfl (by simp [Row.next, Note.enc])
      have hs : Hs G h (begL G hb p mb b o cap l C H n ((H l).1.next w) ++ L') := by
        simp only [begL, List.cons_append, List.nil_append]
        exact hs.to
      have hs0 := hs
      simp only [begL, List.cons_append, List.nil_append] at hs0
      refine r_padd (r_ld hs0 rfl (r_eqI (r_br (fun k1 => begin_6 (j := j) hC hlim hl hnc k1 hs hk) (fun k1 => b13_7 (r_eqI (r_br (fun k2 => b13_10 (r_brT k2 (begin_12 (r := (H l).1.next w) hC hlim hj hl hnc hin.owner (.inl k2) hs hk))) (fun k2 => b13_11 (r_eqI (r_br (fun k3 => begin_12 (r := (H l).1.next w) hC hlim hj hl hnc hin.owner (.inr k3) hs hk) (fun k3 => begin_13 hl ⟨k1, k2, k3⟩ hs hk)))))))))) 
end Go.Proofs.YtagcnlaofkfpjaaDoor
end
section
namespace Go.Proofs.YtagcnlaofkfpjaaDoor
open Go Go.Ab Go.Hm
attribute [local irreducible] thn Br ld1 ldN stV alc alcAt alcS alcSAt resv padd nilV extV part1 partN lenS lenT biI biT biB biP biS biF biE biA unV idxS idxA pickV appV copyV clearV slS slA slT mkS blkOf at1 atN atS convI convS minV maxV Cl OkF OkR EndX endV beginV defersOf setLoop closeMarks
variable {G : Bg} {h : AH} {L L' : List HP}
/-- the home as it was, a row having been looked at -/
theorem hom_same {C : Cfg} {H : Hom} {hb mb b o cap l : Nat} (hl : l < C.lines) (hs : Hs G h (rowR b (o + l * 25) (H l).1 :: homX b o C.lines H l :: seg hb 0 (homE mb C b o cap) :: memN G C.lines mb C (fun i => (H i).2) :: hole G 25 73 (some ⟨b, o, none⟩) cap C.lines b o :: L)) : Hs G h (homR G hb C H :: L) := by
  have := hom_shut hb C H l (H l).1 (H l).2 _ mb b o cap hl updA_mem.symm hs
  rw [show updA H l ((H l).1, (H l).2) = H from updA_self] at this
  exact this
theorem busy_ok {C : Cfg} {hb : Nat} {H : Hom} {x : Int} {Q : Value → AH → Prop} (hs : Hs G h L) [m : Has (homR G hb C) L H L'] (hk : Hs G h (homR G hb C H :: L') → Q (.bool (homBusy C H x)) h) : Cl Pr K 12 [pt hb 0 0, I x] h Q := by
  have hk := hk (m.of hs)
  obtain ⟨mb, b, o, cap, hs⟩ := hom_open (m.of hs)
  unfold homBusy at hk
  refine c12 (b12_0 (has_ok hs (r_br (fun h3 => ?_) (fun h3 => ?_))))
  · obtain ⟨l, rfl⟩ := Int.eq_ofNat_of_zero_le h3.1
    have hl : l < C.lines := by have := h3.2; omega
    obtain ⟨wa, wc, hs⟩ := rowR_open (row_out (H := H) (b := b) (o := o) hl hs)
    rw [decide_eq_true h3, Bool.true_and, Int.toNat_natCast] at hk
    exact r_nilP (r_padd (r_ld hs rfl (r_idxN hl (r_padd (r_ld hs rfl hk)))))
  · rw [decide_eq_false h3] at hk; exact hk
theorem waits_ok {C : Cfg} {hb : Nat} {H : Hom} {x : Int} {Q : Value → AH → Prop} (hs : Hs G h L) [m : Has (homR G hb C) L H L'] (hk : Hs G h (homR G hb C H :: L') → Q (I (homWaits C H x)) h) : Cl Pr K 16 [pt hb 0 0, I x] h Q := by
  have hk := hk (m.of hs)
  obtain ⟨mb, b, o, cap, hs⟩ := hom_open (m.of hs)
  unfold homWaits at hk
  refine c16 (b16_0 (has_ok hs (r_not (r_brn (r_br (fun h3 => ?_) (fun h3 => ?_))))))
  · obtain ⟨l, rfl⟩ := Int.eq_ofNat_of_zero_le h3.1
    have hl : l < C.lines := by have := h3.2; omega
    obtain ⟨wa, wc, hs⟩ := rowR_open (row_out (H := H) (b := b) (o := o) hl hs)
    rw [if_pos h3, Int.toNat_natCast] at hk
    exact r_nilP (r_padd (r_ld hs rfl (r_idxN hl (r_padd (r_ld hs rfl (r_lenS hk))))))
  · rw [if_neg h3] at hk; exact hk
/-- numbers, as a slice -/
def intsR (e : TypeId) (v : Value) (l : List Int) : HP := exH fun x : Option Addr × Nat => sp [puH (v = .slice x.1 l.length x.2), slc 1 e x.1 x.2 (l.length, l.map I)]
theorem intsI {e : TypeId} {a : Option Addr} {c n : Nat} {l : List Int} {cs : List Value} (hn : n = l.length) (hc : cs = l.map I) (hs : Hs G h (slc 1 e a c (n, cs) :: L)) : Hs G h (intsR e (.slice a n c) l :: L) := by
  subst hn; subst hc
  exact Hs.exI (A := fun x : Option Addr × Nat => sp [puH (Value.slice a l.length c = Value.slice x.1 l.length x.2), slc 1 e x.1 x.2 (l.length, l.map I)]) (a, c) (Hs.pack (A := [_, _]) (Hs.puI rfl hs))
theorem intsE {e : TypeId} {v : Value} {l : List Int} (hs : Hs G h (intsR e v l :: L)) : ∃ a c, v = .slice a l.length c ∧ Hs G h (slc 1 e a c (l.length, l.map I) :: L) := by
  obtain ⟨⟨a, c⟩, hs⟩ := hs.exE
  obtain ⟨hv, hs⟩ := Hs.puE hs.unpack
  exact ⟨a, c, hv, hs⟩
def natsI (l : List Nat) : List Int := l.map fun (x : Nat) => (x : Int)
theorem who_ok {C : Cfg} {hb : Nat} {H : Hom} {x : Int} {Q : Value → AH → Prop} (hs : Hs G h L) [m : Has (homR G hb C) L H L'] (hk : ∀ v h', Hs G h' (intsR 3 v (natsI (homWho C H x).2.1) :: homR G hb C H :: L') → Q (.tuple ⟨[I (homWho C H x).1, v, I (homWho C H x).2.2]⟩) h') : Cl Pr K 15 [pt hb 0 0, I x] h Q := by
  obtain ⟨mb, b, o, cap, hs⟩ := hom_open (m.of hs)
  unfold homWho at hk
  refine c15 (b15_0 (r_ptEq (r_brf (b15_1 (has_ok hs (r_not (r_brn (r_br (fun h3 => b15_2 ?_) (fun h3 => ?_)))))))))
  · obtain ⟨l, rfl⟩ := Int.eq_ofNat_of_zero_le h3.1
    have hl : l < C.lines := by have := h3.2; omega
    rw [if_pos h3, Int.toNat_natCast] at hk
    obtain ⟨wa, wc, hs⟩ := rowR_open (row_out (H := H) (b := b) (o := o) hl hs)
    refine r_nilP (r_padd (r_ld hs rfl (r_idxN hl (r_nilP (r_padd (r_ldN hs (by decide) rfl rfl ?_))))))
    have loop : ∀ (f i : Nat) (done : List Nat) (a : Option Addr) (c : Nat) (g : HP) (h : AH), i + f = 4 → done.length + f ≤ 4 → done ++ (H l).1.sharersF f i = (H l).1.sharers → Hs G h (slc 1 3 a c (done.length, (natsI done).map I) :: rowR b (o + l * 25) (H l).1 :: homX b o C.lines H l :: seg hb 0 (homE mb C b o cap) :: memN G C.lines mb C (fun i => (H i).2) :: hole G 25 73 (some ⟨b, o, none⟩) cap C.lines b o :: g :: L') →
        A15_3 Q (.slice a done.length c) (pt b (o + l * 25) 0) (.agg ⟨[.bool ((H l).1.sh 0), .bool ((H l).1.sh 1), .bool ((H l).1.sh 2), .bool ((H l).1.sh 3)]⟩) (I i) h := by
      intro f
      induction f with
      | zero =>
        intro i done a c g h hi hd he hs
        simp only [Row.sharersF, List.append_nil] at he
        refine b15_3 (r_ltI (r_brF (by omega) ?_))
        have hs1 := hs.at2
        obtain ⟨wa, wc, hs1⟩ := rowR_open hs1
        refine r_nilP (r_padd (r_ld hs1 rfl (hk _ _ ?_)))
        rw [← he]
        have hs := intsI (l := natsI done) (by simp [natsI]) rfl hs
        have hs := hom_same (H := H) (hb := hb) (mb := mb) (b := b) (o := o) (cap := cap) (L := [intsR 3 (.slice a done.length c) (natsI done), g] ++ L') hl hs.to
        exact hs.to
      | succ f ih =>
        intro i done a c g h hi hd he hs
        refine b15_3 (r_ltI (r_brT (by omega) (b15_4 (at4 (by omega) (r_brb (fun h1 => b15_5 ?_) (fun h1 => b15_6 ?_))))))
        · rw [Row.sharersF, if_pos h1] at he
          refine r_fill (c := [I i]) rfl (r_newS hs rfl rfl rfl ?_)
          intro a2 h hs
          refine r_appS (hs.front2 (slc 1 3 a c (done.length, (natsI done).map I)) (slc 1 3 (some a2) 1 (1, [I i]))) (by omega) ?_
          intro a3 c3 h hs
          dsimp only
          refine r_addI (by omega) ?_
          have := ih (i + 1) (done ++ [i]) a3 c3 (sp [slc 1 3 (some a2) 1 (1, [I i]), g]) h (by omega) (by simp; omega) (by rw [← he]; simp) (by
            simp only [natsI, List.map_append, List.length_append, List.map_cons, List.map_nil, List.length_cons, List.length_nil, Nat.zero_add] at hs ⊢
            exact hs.to)
          simpa using this
        · rw [Row.sharersF, if_neg (by rw [h1]; simp)] at he
          exact r_addI (by omega) (ih (i + 1) done a c g h (by omega) (by omega) he hs)
    have hs := row_shut b (o + l * 25) (H l).1 wa wc hs rfl rfl rfl
    have hs := slc_nil (W := 1) (e := 3) hs
    exact loop 4 0 [] none 0 (sp []) h rfl (by simp) rfl (by
      simp only [natsI, List.map_nil, List.length_nil]
      exact hs.to)
  · rw [if_neg h3] at hk
    exact hk _ _ (intsI (e := 3) (n := 0) (cs := []) (l := []) rfl rfl (slc_nil (hom_end C H hb mb b o cap hs)))
end Go.Proofs.YtagcnlaofkfpjaaDoor
end
section
namespace Go.Proofs.YtagcnlaofkfpjaaDoor
open Go Go.Ab Go.Hm
attribute [local irreducible] thn Br ld1 ldN stV alc alcAt alcS alcSAt resv padd nilV extV part1 partN lenS lenT biI biT biB biP biS biF biE biA unV idxS idxA pickV appV copyV clearV slS slA slT mkS blkOf at1 atN atS convI convS minV maxV Cl OkF OkR EndX endV beginV defersOf setLoop closeMarks
variable {G : Bg} {h : AH} {L L' : List HP}
theorem homM_mem (n : Nat) : (fun i => (homM n i).2) = mem0 := by funext i; unfold homM mem0; split <;> rfl
theorem new_loop {C : Cfg} (hC : C.Ok) {hb : Nat} {Q : Value → AH → Prop} (hk : ∀ h', Hs G h' (homR G hb C (homM C.lines) :: L) → Q (.tuple ⟨[pt hb 0 0, I 0]⟩) h') : ∀ (f n : Nat) (h : AH), n + f = C.lines → Hs G h (homR G hb C (homM n) :: L) → A7_3 Q (pt hb 0 0) (I C.lines) (I n) h := by
  have hln := Cfg.lines_eq hC
  intro f
  induction f with
  | zero =>
    intro n h hn hs
    have : n = C.lines := by omega
    subst this
    exact b7_3 (r_ltI (r_brF (by omega) (hk _ hs)))
  | succ f ih =>
    intro n h hn hs
    have hl : n < C.lines := by omega
    refine b7_3 (r_ltI (r_brT (by omega) (b7_4 ?_)))
    obtain ⟨mb, b, o, cap, hs⟩ := hom_row hl hs
    obtain ⟨wa, wc, hs⟩ := rowR_open hs
    refine r_nilP (r_padd (r_ld hs rfl (r_idxN hl (r_padd (r_sto hs rfl rfl rfl rfl ?_)))))
    intro h hs
    refine r_addI (by omega) (ih (n + 1) h (by omega) ?_)
    have e1 : (homM n n).1 = { row0 with owner := 0 } := by unfold homM; rw [if_neg (by omega)]
    have e2 : (homM n n).2 = (0, 0) := by unfold homM; rw [if_neg (by omega)]
    rw [e1] at hs
    have hs := row_shut b (o + n * 25) row0 wa wc hs rfl rfl rfl
    have hs := hom_shut hb C (homM n) n row0 (0, 0) (fun i => (homM n i).2) mb b o cap hl (by rw [← e2]; exact updA_mem.symm) hs
    rw [homM_succ] at hs
    exact hs
theorem homeNew_ok {C : Cfg} (hC : C.Ok) {Q : Value → AH → Prop} (hlim : Ob G 0 limE) (hs : Hs G h L) (hk : ∀ hb h', Hs G h' (homR G hb C (homM C.lines) :: L) → Q (.tuple ⟨[pt hb 0 0, I 0]⟩) h') : Cl Pr K 7 [.agg ⟨C.enc⟩] h Q := by
  have hln := Cfg.lines_eq hC
  refine c7 (b7_0 (r_bx hs ?_))
  intro p h hs
  refine r_ldN hs (by decide) (l := C.enc) rfl rfl (check_ok hlim hs fun h hs => ?_)
  rw [if_pos hC]
  refine r_neI (r_brF (by omega) (b7_1 (r_ldN hs (by decide) (l := C.enc) rfl rfl (memNew_ok hC hlim hs fun mb h hs => ?_))))
  refine r_ext rfl (r_ext rfl (r_neI (r_brF (by omega) (b7_2 (r_resv hs ?_)))))
  intro rv h hs
  refine r_ldN hs (by decide) (l := C.enc) rfl rfl (r_ldN hs (by decide) (l := C.enc) rfl rfl (lines_ok hC hlim hs fun h hs => r_mkS (by omega) (by omega) ?_))
  dsimp only
  refine r_newSAt hs rfl rfl ?_ rfl ?_ ?_
  · rw [zerosA_flat, flat_len (W := 25) (fun _ => rfl)]
  · rw [zerosA_flat]; exact flat_cells (fun _ => rfl) _
  intro a h hs
  obtain ⟨b, o, ha, hs⟩ := Hs.newBig (W := 25) rfl (by omega) hs
  cases ha
  refine r_fill (c := homE mb C b o C.lines) rfl (r_bxAt hs rfl rfl ?_)
  intro hb h hs
  refine r_fl veq_P (r_fl (r_ldN hs (by decide) (l := C.enc) rfl rfl (veq_agg (by simp [veq, Cfg.enc]))) (r_nilP (r_padd (r_ld hs rfl (r_lenS ?_)))))
  refine new_loop hC (hk hb) C.lines 0 h (by omega) ?_
  have hs := (hs.front (big C.lines fun i => seg b (o + i * 25) [I 0, .bool false, .bool false, .bool false, .bool false, .slice none 0 0, .bool false, I 0, I 0, I 0, I 0, I 0, I 0, I 0, .bool false, I 0, I 0, .bool false, .bool false, .bool false, .bool false, .bool false, .bool false, I 0, I 0]))
  have hs := Hs.bigMap (g := fun i => rowR b (o + i * 25) (homM 0 i).1) C.lines _ (fun i hi h L hs => rowR_close { row0 with owner := 0 } (a := none) (c := 0) (slc_nil hs).at2) hs
  rw [← homM_mem 0] at hs
  exact (hom_end C (homM 0) hb mb b o C.lines hs).to
end Go.Proofs.YtagcnlaofkfpjaaDoor
end
