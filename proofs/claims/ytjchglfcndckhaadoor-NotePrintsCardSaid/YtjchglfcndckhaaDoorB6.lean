/- A note that may be may be no more if a field that its kind does not have is told. -/
import Derived.Test.YtjchglfcndckhaaDoorB4
import Derived.Test.YtjchglfcndckhaaDoorB5
section
namespace Go.Hm
open Go Go.Ab
structure Cfg where
  cores : Int
  granules : Int
  sets : Int
  ways : Int
  depth : Int
  entries : Int
  banks : Int
  deriving DecidableEq
def Cfg.list (C : Cfg) : List Int := [C.cores, C.granules, C.sets, C.ways, C.depth, C.entries, C.banks]
def Cfg.enc (C : Cfg) : List Value := [I C.cores, I C.granules, I C.sets, I C.ways, I C.depth, I C.entries, I C.banks]
def limL : List Int := [4, 16, 8, 4, 16, 8, 4]
def limE : List Value := [I 4, I 16, I 8, I 4, I 16, I 8, I 4]
def Cfg.ckF (C : Cfg) : Nat → Nat → Int
  | 0, _ => 0
  | f + 1, i => if C.list.getD i 0 < 1 ∨ limL.getD i 0 < C.list.getD i 0 then 10 else C.ckF f (i + 1)
def Cfg.Ok (C : Cfg) : Prop := (1 ≤ C.cores ∧ C.cores ≤ 4) ∧ (1 ≤ C.granules ∧ C.granules ≤ 16) ∧ (1 ≤ C.sets ∧ C.sets ≤ 8) ∧ (1 ≤ C.ways ∧ C.ways ≤ 4) ∧ (1 ≤ C.depth ∧ C.depth ≤ 16) ∧ (1 ≤ C.entries ∧ C.entries ≤ 8) ∧ (1 ≤ C.banks ∧ C.banks ≤ 4)
instance (C : Cfg) : Decidable C.Ok := by unfold Cfg.Ok; infer_instance
theorem Cfg.ck_eq (C : Cfg) : C.ckF 7 0 = if C.Ok then 0 else 10 := by
  simp only [Cfg.ckF, Cfg.list, limL, List.getD_cons_zero, List.getD_cons_succ]
  by_cases h : C.Ok
  · rw [if_pos h]
    unfold Cfg.Ok at h
    repeat rw [if_neg (by omega)]
  · rw [if_neg h]
    unfold Cfg.Ok at h
    repeat' split
    all_goals first | rfl | (exfalso; omega)
def Cfg.lines (C : Cfg) : Nat := (C.granules * 2).toNat
theorem Cfg.lines_eq {C : Cfg} (h : C.Ok) : (C.lines : Int) = C.granules * 2 ∧ 2 ≤ C.lines ∧ C.lines ≤ 32 := by
  unfold Cfg.Ok at h; unfold Cfg.lines; omega
end Go.Hm
end
section
namespace Go.Hm
open Go Go.Ab
abbrev Ln := Int × Int
def lnE (l : Ln) : List Value := [I l.1, I l.2]
/-- how many of the first 'n' lines are in a bank -/
def cntB (n B i : Nat) : Nat := (n + B - 1 - i) / B
theorem cntB_zero {B i : Nat} (hi : i < B) : cntB 0 B i = 0 := Nat.div_eq_of_lt (by omega)
theorem cntB_succ {n B i : Nat} (hi : i < B) : cntB (n + 1) B i = if i = n % B then cntB n B i + 1 else cntB n B i := by
  have hd := Nat.div_add_mod n B
  have hm := Nat.mod_lt n (show 0 < B by omega)
  unfold cntB
  generalize n / B = q at hd
  generalize n % B = r at hd hm ⊢
  subst hd
  split
  · rename_i h; subst h
    rw [show B * q + i + 1 + B - 1 - i = B * q + B by omega, show B * q + i + B - 1 - i = B * q + (B - 1) by omega]
    rw [Nat.mul_add_div (by omega), Nat.mul_add_div (by omega), Nat.div_self (by omega), Nat.div_eq_of_lt (show B - 1 < B by omega)]
  · rename_i h
    rcases Nat.lt_or_ge i r with h1 | h1
    · rw [show B * q + r + 1 + B - 1 - i = B * q + (B + (r - i)) by omega, show B * q + r + B - 1 - i = B * q + (B + (r - i - 1)) by omega]
      rw [Nat.mul_add_div (by omega), Nat.mul_add_div (by omega), Nat.add_div_left _ (by omega), Nat.add_div_left _ (by omega), Nat.div_eq_of_lt (show r - i < B by omega), Nat.div_eq_of_lt (show r - i - 1 < B by omega)]
    · rw [show B * q + r + 1 + B - 1 - i = B * q + (B + r - i) by omega, show B * q + r + B - 1 - i = B * q + (B + r - i - 1) by omega]
      rw [Nat.mul_add_div (by omega), Nat.mul_add_div (by omega), Nat.div_eq_of_lt (show B + r - i < B by omega), Nat.div_eq_of_lt (show B + r - i - 1 < B by omega)]
theorem cntB_at {n B l : Nat} (hB : 0 < B) (hl : l < n) : l / B < cntB n B (l % B) := by
  unfold cntB
  have hd := Nat.div_add_mod l B
  have hm := Nat.mod_lt l hB
  rw [Nat.lt_div_iff_mul_lt hB]
  rw [Nat.mul_comm]
  generalize B * (l / B) = q at hd ⊢
  omega
theorem bank_no {B l k i : Nat} (hi : i < B) : k * B + i = l ↔ k = l / B ∧ i = l % B := by
  constructor
  · intro h; subst h
    rw [Nat.mul_comm, Nat.mul_add_div (by omega), Nat.mul_add_mod, Nat.div_eq_of_lt hi, Nat.mod_eq_of_lt hi]; simp
  · rintro ⟨rfl, rfl⟩
    have := Nat.div_add_mod l B
    rw [Nat.mul_comm]; exact this
theorem Cfg.bk {C : Cfg} (h : C.Ok) : (C.banks.toNat : Int) = C.banks ∧ 0 < C.banks.toNat ∧ C.banks.toNat ≤ 4 := by unfold Cfg.Ok at h; omega
/-- the lines of a bank -/
def bkC (B i : Nat) (mem : Nat → Ln) : Nat → List Value := fun k => lnE (mem (k * B + i))
theorem bkC_len {B i : Nat} {mem : Nat → Ln} (k : Nat) : (bkC B i mem k).length = 2 := rfl
theorem updA_self {α : Type} {f : Nat → α} {i : Nat} : updA f i (f i) = f := by
  funext j; unfold updA; split
  · rename_i h; rw [h]
  · rfl
theorem bkC_at {B l : Nat} {mem : Nat → Ln} (hB : 0 < B) : bkC B (l % B) mem (l / B) = lnE (mem l) := by
  unfold bkC; rw [(bank_no (Nat.mod_lt l hB)).2 ⟨rfl, rfl⟩]
theorem bkC_upd {B l : Nat} {mem : Nat → Ln} {v : Ln} (hB : 0 < B) : updA (bkC B (l % B) mem) (l / B) (lnE v) = bkC B (l % B) (updA mem l v) := by
  funext k
  unfold bkC updA
  have := (bank_no (l := l) (k := k) (Nat.mod_lt l hB))
  by_cases h : k = l / B
  · rw [if_pos h, if_pos (this.2 ⟨h, rfl⟩)]
  · rw [if_neg h, if_neg (fun e => h (this.1 e).1)]
theorem bkC_ne {B l i : Nat} {mem : Nat → Ln} {v : Ln} (hi : i < B) (h : i ≠ l % B) : bkC B i (updA mem l v) = bkC B i mem := by
  funext k
  unfold bkC updA
  rw [if_neg (fun e => h ((bank_no hi).1 e).2)]
theorem cntB_le {n B i : Nat} (hB : 0 < B) : cntB n B i ≤ n := by
  unfold cntB
  refine Nat.le_of_lt_succ (Nat.div_lt_of_lt_mul ?_)
  rw [Nat.mul_succ]
  have : n ≤ B * n := Nat.le_mul_of_pos_left _ hB
  omega
def mem0 : Nat → Ln := fun _ => (0, 0)
end Go.Hm
end
section
namespace Go.Hm
open Go Go.Ab

structure Note where
  kind : Int
  core : Int
  line : Int
  world : Int
  state : Int
  d0 : Int
  d1 : Int
  dirty : Bool
  no : Int
  deriving DecidableEq
def Note.enc (n : Note) : List Value := [I n.kind, I n.core, I n.line, I n.world, I n.state, I n.d0, I n.d1, .bool n.dirty, I n.no]
def Note.zero : Note := ⟨0, 0, 0, 0, 0, 0, 0, false, 0⟩
def encNs (l : List Note) : List Value := l.flatMap Note.enc
theorem encNs_len (l : List Note) : (encNs l).length = l.length * 9 := by
  induction l with
  | nil => rfl
  | cons n l ih => simp only [encNs, List.flatMap_cons, List.length_append] at ih ⊢; rw [ih]; simp [Note.enc]; omega
theorem encNs_cells (l : List Note) : (encNs l).all cellB = true := by
  induction l with
  | nil => rfl
  | cons n l ih => simp only [encNs, List.flatMap_cons, List.all_append] at ih ⊢; rw [ih]; rfl
theorem encNs_append (l m : List Note) : encNs (l ++ m) = encNs l ++ encNs m := by simp [encNs]
@[simp] theorem encNs_cons (n : Note) (l : List Note) : encNs (n :: l) = n.enc ++ encNs l := rfl
@[simp] theorem encNs_nil : encNs [] = [] := rfl
structure Row where
  owner : Int
  sh : Nat → Bool
  waits : List Note
  busy : Bool
  served : Note
  world : Int
  asked : Nat → Bool
  granted : Bool
  told : Bool
  d0 : Int
  d1 : Int
def Row.enc (r : Row) (a : Option Addr) (c : Nat) : List Value :=
  [I r.owner, .bool (r.sh 0), .bool (r.sh 1), .bool (r.sh 2), .bool (r.sh 3), .slice a r.waits.length c, .bool r.busy, I r.served.kind, I r.served.core, I r.served.line, I r.served.world, I r.served.state, I r.served.d0, I r.served.d1, .bool r.served.dirty, I r.served.no,
   I r.world, .bool (r.asked 0), .bool (r.asked 1), .bool (r.asked 2), .bool (r.asked 3), .bool r.granted, .bool r.told, I r.d0, I r.d1]
def Row.encA (r : Row) : List Value := [I r.owner, .bool (r.sh 0), .bool (r.sh 1), .bool (r.sh 2), .bool (r.sh 3)]
def Row.encB (r : Row) (a : Option Addr) (c : Nat) : List Value :=
  [.slice a r.waits.length c, .bool r.busy, I r.served.kind, I r.served.core, I r.served.line, I r.served.world, I r.served.state, I r.served.d0, I r.served.d1, .bool r.served.dirty, I r.served.no,
   I r.world, .bool (r.asked 0), .bool (r.asked 1), .bool (r.asked 2), .bool (r.asked 3), .bool r.granted, .bool r.told, I r.d0, I r.d1]
theorem Row.enc_split (r : Row) (a : Option Addr) (c : Nat) : r.enc a c = r.encA ++ r.encB a c := rfl
def updB (f : Nat → Bool) (i : Int) (v : Bool) : Nat → Bool := fun j => if (j : Int) = i then v else f j
def Row.free (r : Row) : Row := { r with busy := false, granted := false, told := false, served := Note.zero, world := 0, d0 := 0, d1 := 0 }
def Row.leave (r : Row) (core : Int) : Row := { r with sh := updB r.sh core false, owner := if r.owner = core then -1 else r.owner }
/-- is a core a holder? -/
def Row.holds (r : Row) (but : Int) (i : Nat) : Bool := decide ((i : Int) ≠ but) && (r.sh i || decide ((i : Int) = r.owner))
theorem holds1 {r : Row} {x : Int} {i : Nat} (h : (i : Int) ≠ x) (h1 : r.sh i = true) : r.holds x i = true := by simp [Row.holds, h, h1]
theorem holds2 {r : Row} {x : Int} {i : Nat} (h : (i : Int) ≠ x) (h1 : (i : Int) = r.owner) : r.holds x i = true := by
  unfold Row.holds; rw [decide_eq_true h, decide_eq_true h1]; simp
theorem holdsN1 {r : Row} {x : Int} {i : Nat} (h : (i : Int) = x) : r.holds x i = false := by
  unfold Row.holds; rw [decide_eq_false (by simpa using h)]; rfl
theorem holdsN2 {r : Row} {x : Int} {i : Nat} (h : r.sh i = false) (h1 : (i : Int) ≠ r.owner) : r.holds x i = false := by
  unfold Row.holds; rw [h, decide_eq_false h1]; simp
def Row.firstF (r : Row) (but : Int) : Nat → Nat → Int
  | 0, _ => -1
  | f + 1, i => if r.holds but i then i else r.firstF but f (i + 1)
def Row.first (r : Row) (but : Int) : Int := r.firstF but 4 0
def Row.holdersF (r : Row) (but : Int) : Nat → Nat → List Nat
  | 0, _ => []
  | f + 1, i => if r.holds but i then i :: r.holdersF but f (i + 1) else r.holdersF but f (i + 1)
def Row.holders (r : Row) (but : Int) : List Nat := r.holdersF but 4 0
def Row.askAll (r : Row) (l : List Nat) : Row := { r with asked := fun j => r.asked j || l.contains j }
def probes (line state : Int) (l : List Nat) : List Note := l.map fun (i : Nat) => { Note.zero with kind := 11, core := (i : Int), line := line, state := state }
/-- nobody's Reply is waited for -/
def Row.quiet (r : Row) : Bool := !(r.asked 0 || r.asked 1 || r.asked 2 || r.asked 3)
/-- a line: its row, and what memory has of it -/
abbrev Lin := Row × Ln
def Row.dat (r : Row) (m : Ln) : Ln := if r.told then (r.d0, r.d1) else m
def Row.grantN (r : Row) (line st : Int) (d : Ln) : Note := ⟨8, r.served.core, line, r.world, st, d.1, d.2, false, 0⟩
def Row.grant (r : Row) (line : Int) (d : Ln) : Row × List Note :=
  if r.served.kind = 2 then ({ r with owner := r.served.core, sh := fun _ => false, granted := true }, [r.grantN line 4 d])
  else if r.first r.served.core = -1 then ({ r with owner := r.served.core, sh := updB r.sh r.served.core false, granted := true }, [r.grantN line 2 d])
  else ({ r with sh := updB r.sh r.served.core true, granted := true }, [r.grantN line 1 d])
def valid (s : Int) : Bool := decide (0 ≤ s ∧ s < 5) && decide (s ≠ 0)
def Row.heard1 (r : Row) (n : Note) : Row := { r with asked := updB r.asked n.core false }
def Row.heard2 (r : Row) (n : Note) : Row := { r with owner := -1, sh := updB r.sh n.core (valid n.state) }
def Row.heard3 (r : Row) (n : Note) : Row := { r with told := true, d0 := n.d0, d1 := n.d1 }
/-- what a Reply turns, ahead of what comes of it -/
def Row.heard (r : Row) (n : Note) : Row :=
  if r.served.kind ≠ 1 then (r.heard1 n).leave n.core
  else if n.state ≠ 3 then (if n.dirty then ((r.heard1 n).heard2 n).heard3 n else (r.heard1 n).heard2 n)
  else if n.dirty then (r.heard1 n).heard3 n else r.heard1 n
def Row.heardM (r : Row) (m : Ln) (n : Note) : Ln := if r.served.kind ≠ 1 ∧ n.dirty = true then (n.d0, n.d1) else m
/-- what comes of it -/
def Row.rest (r : Row) (line : Int) (m : Ln) : Row × List Note :=
  if r.quiet then (if r.served.kind = 0 then (r.free, []) else r.grant line (r.dat m)) else (r, [])
def Lin.reply (x : Lin) (line : Int) (n : Note) : Lin × List Note :=
  let m := x.1.heardM x.2 n
  let g := (x.1.heard n).rest line m
  ((g.1, m), g.2)
def Row.serve (r : Row) (n : Note) (world : Int) : Row := { r with busy := true, served := n, world := world }
def Row.getM (r : Row) (line : Int) (m : Ln) : Row × List Note :=
  if r.first r.served.core ≠ -1 then (r.askAll (r.holders r.served.core), probes line 0 (r.holders r.served.core)) else r.grant line (r.dat m)
def Row.getS (r : Row) (line : Int) (m : Ln) : Row × List Note :=
  if r.owner ≠ -1 then (r.askAll [r.owner.toNat], probes line 1 [r.owner.toNat]) else r.grant line (r.dat m)
def Row.unown (r : Row) : Row := if r.owner = r.served.core then { r with owner := -1 } else r
def Row.get (r : Row) (line : Int) (m : Ln) (n : Note) (world : Int) : Row × List Note :=
  let r := r.serve n world
  if n.kind = 2 then r.getM line m else r.unown.getS line m
def Row.wait (r : Row) (n : Note) : Row := { r with waits := r.waits ++ [n] }
def Row.next (r : Row) (w : List Note) : Row := { r with waits := w }
def Row.serve0 (r : Row) (n : Note) : Row := { r with busy := true, served := n }
def Lin.take (x : Lin) (line : Int) (n : Note) : Lin × List Note × Int :=
  if n.kind = 4 then (if x.1.granted = false ∨ x.1.served.core ≠ n.core then (x, [], 16) else ((x.1.free, x.2), [], 0))
  else if n.kind = 5 then (if x.1.asked n.core.toNat = false then (x, [], 16) else let g := Lin.reply x line n; (g.1, g.2, 0))
  else ((x.1.wait n, x.2), [], 0)
def sweepN (line : Int) : Note := { Note.zero with line := line }
def Lin.sweep (x : Lin) (line : Int) : Lin := (x.1.wait (sweepN line), x.2)
def ackN (kind core line : Int) : Note := { Note.zero with kind := kind, core := core, line := line }
/-- the first request is served; 'j': what the judge tells of a world -/
def Row.begun (r : Row) (line : Int) (m : Ln) (n : Note) (j : Int → Int × Bool) : Lin × List Note :=
  if n.kind = 3 then ((r.leave n.core, if r.owner = n.core ∧ n.dirty = true then (n.d0, n.d1) else m), [ackN 10 n.core line])
  else if n.kind = 1 ∨ n.kind = 2 then (if (j n.world).2 = true then let g := r.get line m n (j n.world).1; ((g.1, m), g.2) else ((r, m), [ackN 9 n.core line]))
  else if r.first (-1) = -1 then ((r, m), [])
  else (((r.serve0 n).askAll (r.holders (-1)), m), probes line 0 (r.holders (-1)))
def Lin.begin (x : Lin) (line : Int) (j : Int → Int × Bool) : Lin × List Note × Int :=
  if x.1.busy = true then (x, [], 16)
  else match x.1.waits with
    | [] => (x, [], 12)
    | n :: w => let g := Row.begun (x.1.next w) line x.2 n j; (g.1, g.2, 0)
abbrev Hom := Nat → Lin
def row0 : Row := ⟨-1, fun _ => false, [], false, Note.zero, 0, fun _ => false, false, false, 0, 0⟩
def hom0 : Hom := fun _ => (row0, (0, 0))
theorem holdersF_lt {r : Row} {x : Int} : ∀ (f i : Nat), i + f = 4 → (∀ c ∈ r.holdersF x f i, c < 4) ∧ (r.holdersF x f i).length ≤ f := by
  intro f
  induction f with
  | zero => intro i hi; simp [Row.holdersF]
  | succ f ih =>
    intro i hi
    obtain ⟨h1, h2⟩ := ih (i + 1) (by omega)
    unfold Row.holdersF
    split
    · refine ⟨fun c hc => ?_, by simp; omega⟩
      rcases List.mem_cons.1 hc with rfl | hc
      · omega
      · exact h1 c hc
    · exact ⟨h1, by omega⟩
theorem holders_lt {r : Row} {x : Int} : ∀ c ∈ r.holders x, c < 4 := (holdersF_lt 4 0 rfl).1
theorem holders_len {r : Row} {x : Int} : (r.holders x).length ≤ 4 := (holdersF_lt 4 0 rfl).2
/-- is there such a line? -/
def Cfg.has (C : Cfg) (l : Int) : Prop := 0 ≤ l ∧ l < C.lines
instance (C : Cfg) (l : Int) : Decidable (C.has l) := by unfold Cfg.has; infer_instance
def takes (k : Int) : Prop := k = 1 ∨ k = 2 ∨ k = 3 ∨ k = 4 ∨ k = 5
instance (k : Int) : Decidable (takes k) := by unfold takes; infer_instance
def Hom.at (H : Hom) (l : Int) : Lin := H l.toNat
def homTake (C : Cfg) (H : Hom) (n : Note) : Hom × List Note × Int :=
  if ¬ takes n.kind then (H, [], 15)
  else if (0 ≤ n.core ∧ n.core < C.cores) ∧ C.has n.line then (updA H n.line.toNat (Lin.take (H n.line.toNat) n.line n).1, (Lin.take (H n.line.toNat) n.line n).2)
  else (H, [], 10)
def homSweep (C : Cfg) (H : Hom) (l : Int) : Hom × Int := if C.has l then (updA H l.toNat (Lin.sweep (H l.toNat) l), 0) else (H, 10)
def homBegin (C : Cfg) (H : Hom) (l : Int) (j : Int → Int × Bool) : Hom × List Note × Int :=
  if C.has l then (updA H l.toNat (Lin.begin (H l.toNat) l j).1, (Lin.begin (H l.toNat) l j).2) else (H, [], 10)
structure Row.Inv (r : Row) : Prop where
  core : 0 ≤ r.served.core ∧ r.served.core < 4
  owner : -1 ≤ r.owner ∧ r.owner < 4
  waits : ∀ n ∈ r.waits, 0 ≤ n.core ∧ n.core < 4
def HInv (C : Cfg) (H : Hom) (N : Nat) : Prop := ∀ l, l < C.lines → (H l).1.Inv ∧ (H l).1.waits.length ≤ N
def homBusy (C : Cfg) (H : Hom) (l : Int) : Bool := decide (C.has l) && (H l.toNat).1.busy
def homWaits (C : Cfg) (H : Hom) (l : Int) : Int := if C.has l then ((H l.toNat).1.waits.length : Int) else 0
def Row.sharersF (r : Row) : Nat → Nat → List Nat
  | 0, _ => []
  | f + 1, i => if r.sh i then i :: r.sharersF f (i + 1) else r.sharersF f (i + 1)
def Row.sharers (r : Row) : List Nat := r.sharersF 4 0
def homWho (C : Cfg) (H : Hom) (l : Int) : Int × List Nat × Int := if C.has l then ((H l.toNat).1.owner, (H l.toNat).1.sharers, 0) else (0, [], 10)
theorem sharersF_len {r : Row} : ∀ (f i : Nat), (r.sharersF f i).length ≤ f := by
  intro f
  induction f with
  | zero => intro i; simp [Row.sharersF]
  | succ f ih => intro i; have := ih (i + 1); unfold Row.sharersF; split <;> simp <;> omega
/-- a home in the making: of the first rows the owner is told -/
def homM (n : Nat) : Hom := fun i => if i < n then (row0, (0, 0)) else ({ row0 with owner := 0 }, (0, 0))
theorem homM_succ {n : Nat} : updA (homM n) n (row0, (0, 0)) = homM (n + 1) := by
  funext i
  unfold updA homM
  by_cases h : i = n
  · rw [if_pos h, if_pos (by omega)]
  · rw [if_neg h]
    by_cases h2 : i < n
    · rw [if_pos h2, if_pos (by omega)]
    · rw [if_neg h2, if_neg (by omega)]
theorem encNs_at : ∀ (l : List Note) (i : Nat) (n : Note), l[i]? = some n → ((encNs l).drop (i * 9)).take 9 = n.enc
  | [], i, n, h => by simp at h
  | m :: l, 0, n, h => by simp at h; subst h; simp [Note.enc]
  | m :: l, i + 1, n, h => by
    have ih := encNs_at l i n (by simpa using h)
    have e : (i + 1) * 9 = m.enc.length + i * 9 := by show (i + 1) * 9 = 9 + i * 9; omega
    rw [encNs_cons, e, List.drop_append, List.drop_eq_nil_of_le (show m.enc.length ≤ m.enc.length + i * 9 by omega), List.nil_append, show m.enc.length + i * 9 - m.enc.length = i * 9 by omega]
    exact ih
/-- a note with which a request begins to be served -/
def Note.fits (n r : Note) (len : Nat) : Prop :=
  n.line = r.line ∧ n.no = 0 ∧ ((n.kind = 8 ∧ n.core = r.core ∧ len = 1 ∧ (r.kind = 1 ∨ r.kind = 2)) ∨ (n.kind = 9 ∧ n.world = 0 ∧ n.core = r.core ∧ len = 1 ∧ (r.kind = 1 ∨ r.kind = 2)) ∨
    (n.kind = 10 ∧ n.world = 0 ∧ n.core = r.core ∧ len = 1 ∧ r.kind = 3) ∨ (n.kind = 11 ∧ n.world = 0 ∧ n.core ≠ r.core ∧ (r.kind = 1 ∨ r.kind = 2 ∨ (r.kind = 0 ∧ n.state = 0))))
end Go.Hm
end
section
namespace Go.Nt
open Go Go.Ab Go.Hm
/-- the rows of the kinds: word, lane, fields -/
def kindsL : List (List UInt8 × Int × List Int) := [
  ([], 0, [0, 0, 0, 0, 0, 0, 0]),
  ([103, 101, 116, 115], 0, [1, 2, 3, 0, 0, 0, 0]),
  ([103, 101, 116, 109], 0, [1, 2, 3, 0, 0, 0, 0]),
  ([112, 117, 116], 0, [1, 2, 4, 8, 9, 10, 0]),
  ([100, 111, 110, 101], 1, [1, 2, 0, 0, 0, 0, 0]),
  ([114, 101, 112, 108, 121], 1, [1, 2, 5, 8, 9, 10, 11]),
  ([119, 97, 108, 107], 0, [1, 12, 0, 0, 0, 0, 0]),
  ([100, 114, 111, 112, 112, 101, 100], 1, [1, 13, 0, 0, 0, 0, 0]),
  ([103, 114, 97, 110, 116], 2, [1, 2, 4, 6, 8, 9, 0]),
  ([110, 97, 99, 107], 2, [1, 2, 11, 0, 0, 0, 0]),
  ([112, 117, 116, 97, 99, 107], 2, [1, 2, 0, 0, 0, 0, 0]),
  ([112, 114, 111, 98, 101], 3, [1, 2, 7, 0, 0, 0, 0]),
  ([119, 97, 108, 107, 101, 100], 2, [1, 8, 9, 12, 0, 0, 0]),
  ([100, 114, 111, 112], 3, [1, 13, 0, 0, 0, 0, 0])]
def kindRow (r : List UInt8 × Int × List Int) : List Value := .string ⟨r.1.toArray⟩ :: I r.2.1 :: r.2.2.map I
def kindsE : List Value := kindsL.flatMap kindRow
def arrK (k : Nat) : List Int := (kindsL.getD k ([], 0, [])).2.2
def laneK (k : Nat) : Int := (kindsL.getD k ([], 0, [])).2.1
def wordK (k : Nat) : List UInt8 := (kindsL.getD k ([], 0, [])).1
/-- up to the first 0 -/
def ws (arr : List Int) : Nat → Nat → List Int
  | 0, _ => []
  | f + 1, i => if arr.getD i 0 = 0 then [] else arr.getD i 0 :: ws arr f (i + 1)
def flds (k : Nat) : List Int := ws (arrK k) 7 0
theorem k14 {k : Nat} (h : k < 14) : k = 0 ∨ k = 1 ∨ k = 2 ∨ k = 3 ∨ k = 4 ∨ k = 5 ∨ k = 6 ∨ k = 7 ∨ k = 8 ∨ k = 9 ∨ k = 10 ∨ k = 11 ∨ k = 12 ∨ k = 13 := by omega
theorem kinds_lane {k : Nat} (h : k < 14) : kindsE[k * 9 + 1]? = some (I (laneK k)) := by
  rcases k14 h with rfl | rfl | rfl | rfl | rfl | rfl | rfl | rfl | rfl | rfl | rfl | rfl | rfl | rfl <;> rfl
theorem kinds_word {k : Nat} (h : k < 14) : kindsE[k * 9]? = some (.string ⟨(wordK k).toArray⟩) := by
  rcases k14 h with rfl | rfl | rfl | rfl | rfl | rfl | rfl | rfl | rfl | rfl | rfl | rfl | rfl | rfl <;> rfl
theorem kinds_arr {k : Nat} (h : k < 14) : (kindsE.drop (k * 9 + 2)).take 7 = (arrK k).map I := by
  rcases k14 h with rfl | rfl | rfl | rfl | rfl | rfl | rfl | rfl | rfl | rfl | rfl | rfl | rfl | rfl <;> rfl
theorem arr_len {k : Nat} (h : k < 14) : (arrK k).length = 7 := by
  rcases k14 h with rfl | rfl | rfl | rfl | rfl | rfl | rfl | rfl | rfl | rfl | rfl | rfl | rfl | rfl <;> rfl
theorem kinds_len : kindsE.length = 126 := by rfl
theorem flds_in {k : Nat} (h : k < 14) : ∀ f ∈ flds k, 1 ≤ f ∧ f ≤ 13 := by
  rcases k14 h with rfl | rfl | rfl | rfl | rfl | rfl | rfl | rfl | rfl | rfl | rfl | rfl | rfl | rfl <;> decide
theorem f13 {f : Int} (h : 1 ≤ f ∧ f ≤ 13) : f = 1 ∨ f = 2 ∨ f = 3 ∨ f = 4 ∨ f = 5 ∨ f = 6 ∨ f = 7 ∨ f = 8 ∨ f = 9 ∨ f = 10 ∨ f = 11 ∨ f = 12 ∨ f = 13 := by omega
def isK (k : Int) : Prop := 1 ≤ k ∧ k < 14
instance (k : Int) : Decidable (isK k) := by unfold isK; infer_instance
/-- the number of a field -/
def getN (n : Note) (f : Int) : Int :=
  if f = 1 then n.core else if f = 2 then n.line else if f = 3 ∨ f = 4 then n.world else if f = 5 ∨ f = 6 ∨ f = 7 then n.state else if f = 8 then n.d0 else if f = 9 then n.d1
  else if f = 10 then (if n.dirty = true then 1 else 0) else n.no
def setN (n : Note) (f v : Int) : Note :=
  if f = 1 then { n with core := v } else if f = 2 then { n with line := v } else if f = 3 ∨ f = 4 then { n with world := v } else if f = 5 ∨ f = 6 ∨ f = 7 then { n with state := v } else if f = 8 then { n with d0 := v } else if f = 9 then { n with d1 := v }
  else if f = 10 then { n with dirty := decide (v ≠ 0) } else { n with no := v }
def mayP (C : Cfg) (f v : Int) : Prop :=
  if f = 1 then 0 ≤ v ∧ v < C.cores else if f = 2 then 0 ≤ v ∧ v < C.lines else if f = 3 then 0 ≤ v ∧ v ≤ 3 else if f = 4 then 0 ≤ v ∧ v ≤ 4 else if f = 5 then 0 ≤ v ∧ v ≤ 4
  else if f = 6 then v = 1 ∨ v = 2 ∨ v = 4 else if f = 7 then v = 0 ∨ v = 1 else if f = 10 ∨ f = 11 then v = 0 ∨ v = 1 else if f = 12 then 0 ≤ v ∧ v < 20 else if f = 13 then 0 ≤ v ∧ v < C.granules else True
instance (C : Cfg) (f v : Int) : Decidable (mayP C f v) := by unfold mayP; infer_instance
/-- the fields are taken over, one by one, up to one that may not be -/
def walkN (C : Cfg) (n : Note) : List Int → Note → Bool × Note
  | [], a => (true, a)
  | f :: fs, a => if mayP C f (getN n f) then walkN C n fs (setN a f (getN n f)) else (false, a)
def kindN (k : Int) : Note := { Note.zero with kind := k }
def chk (C : Cfg) (n : Note) : Int :=
  if isK n.kind then (if C.Ok then (if (walkN C n (flds n.kind.toNat) (kindN n.kind)).1 = true ∧ (walkN C n (flds n.kind.toNat) (kindN n.kind)).2 = n then 0 else 10) else 10) else 15
end Go.Nt
end
section
namespace Go.Proofs.YtjchglfcndckhaaDoor
open Go Go.Ab Go.Hm
attribute [local irreducible] thn Br ld1 ldN stV alc alcAt alcS alcSAt resv padd nilV extV part1 partN lenS lenT biI biT biB biP biS biF biE biA unV idxS idxA pickV appV copyV clearV slS slA slT mkS blkOf at1 atN atS convI convS minV maxV Cl OkF OkR EndX endV beginV defersOf setLoop closeMarks
variable {G : Bg} {h : AH} {L L' : List HP}
theorem check_loop {C : Cfg} {p : Nat} {Q : Value → AH → Prop} (hs : Hs G h (seg p 0 C.enc :: L)) : ∀ (f i : Nat), i + f = 7 → Q (I (C.ckF f i)) h → A21_1 Q (pt p 0 0) (I 0) (.agg ⟨limE⟩) (I i) h := by
  intro f
  induction f with
  | zero =>
    intro i hi hq
    exact b21_1 (r_ltI (r_brF (by omega) hq))
  | succ f ih =>
    intro i hi hq
    have h7 : i < 7 := by omega
    refine b21_1 (r_ltI (r_brT (by omega) (b21_2 ?_)))
    have hc : C.enc[0 + i * 1]? = some (I (C.list.getD i 0)) := by
      have : i = 0 ∨ i = 1 ∨ i = 2 ∨ i = 3 ∨ i = 4 ∨ i = 5 ∨ i = 6 := by omega
      rcases this with rfl | rfl | rfl | rfl | rfl | rfl | rfl <;> rfl
    have hl : limE[i]? = some (I (limL.getD i 0)) := by
      have : i = 0 ∨ i = 1 ∨ i = 2 ∨ i = 3 ∨ i = 4 ∨ i = 5 ∨ i = 6 := by omega
      rcases this with rfl | rfl | rfl | rfl | rfl | rfl | rfl <;> rfl
    rw [Cfg.ckF] at hq
    refine r_at1 h7 hl (r_idxAn h7 (r_ld hs hc (r_ltI (r_br (fun h1 => ?_) (fun h1 => r_idxAn h7 (r_ld hs hc (r_gtI (r_br (fun h2 => b21_3 ?_) (fun h2 => b21_4 (r_addI (by omega) (ih (i + 1) (by omega) ?_)))))))))))
    · rw [if_pos (.inl h1)] at hq; exact hq
    · rw [if_pos (.inr h2)] at hq; exact hq
    · rw [if_neg (by omega)] at hq; exact hq
theorem check_ok {C : Cfg} {Q : Value → AH → Prop} (hl : Ob G 1 limE) (hs : Hs G h L) (hk : ∀ h', Hs G h' L → Q (I (if C.Ok then 0 else 10)) h') : Cl Pr K 21 [.agg ⟨C.enc⟩] h Q := by
  refine c21 (b21_0 ?_)
  refine r_bx hs ?_
  intro p h hs
  iterate 7 refine r_padd (r_ld hs rfl ?_)
  refine r_fill (c := C.enc) rfl (r_new hs ?_)
  intro p h hs
  refine r_stW hs rfl rfl rfl rfl ?_
  intro h hs
  refine r_ldNg hs hl rfl ?_
  refine check_loop (C := C) hs 7 0 rfl ?_
  rw [Cfg.ck_eq]
  exact hk _ hs.tail.tail
theorem lines_ok {C : Cfg} (hC : C.Ok) {Q : Value → AH → Prop} (hl : Ob G 1 limE) (hs : Hs G h L) (hk : ∀ h', Hs G h' L → Q (I C.lines) h') : Cl Pr K 33 [.agg ⟨C.enc⟩] h Q := by
  refine c33 (b33_0 ?_)
  refine r_bx hs ?_
  intro p h hs
  refine r_ldN hs (by decide) (l := C.enc) rfl rfl (check_ok hl hs fun h hs => ?_)
  rw [if_pos hC]
  have hb := Cfg.lines_eq hC
  refine r_neI (r_brF (by omega) ?_)
  refine r_padd (r_ld hs rfl (r_mulI (by unfold Cfg.Ok at hC; omega) ?_))
  rw [show C.granules * 2 = (C.lines : Int) from hb.1.symm]
  exact hk _ hs.tail
end Go.Proofs.YtjchglfcndckhaaDoor
end
section
namespace Go.Proofs.YtjchglfcndckhaaDoor
open Go Go.Ab Go.Hm Go.Nt
theorem r_idxAg {g n sz i : Nat} {k : Value → Prop} (hi : i < n) (hk : k (pt g (i * sz) 0)) : thn (idxA n sz (.pointer (some ⟨g, 0, none⟩)) (I i)) k :=
  r_idxAn (b := g) (o := 0) (j := 0) hi (by simpa [pt] using hk)
attribute [local irreducible] thn Br ld1 ldN stV alc alcAt alcS alcSAt resv padd nilV extV part1 partN lenS lenT biI biT biB biP biS biF biE biA unV idxS idxA pickV appV copyV clearV slS slA slT mkS blkOf at1 atN atS convI convS minV maxV Cl OkF OkR EndX endV beginV defersOf setLoop closeMarks
variable {G : Bg} {h : AH} {L L' : List HP}
theorem is_ok {k : Int} {Q : Value → AH → Prop} (hk : Q (.bool (decide (isK k))) h) : Cl Pr K 20 [I k] h Q := by
  refine c20 (b20_0 (r_geI (r_br (fun h1 => r_ltI ?_) (fun h1 => ?_))))
  · rw [show decide (k < 14) = decide (isK k) from decide_eq_decide.2 (by unfold isK; omega)]; exact hk
  · rw [show false = decide (isK k) from (decide_eq_false (by unfold isK; omega)).symm]; exact hk
theorem k_of {k : Int} (h : isK k) : ∃ n : Nat, k = (n : Int) ∧ 1 ≤ n ∧ n < 14 := ⟨k.toNat, by unfold isK at h; omega, by unfold isK at h; omega, by unfold isK at h; omega⟩
theorem lane_ok {k : Int} {Q : Value → AH → Prop} (hkd : Ob G 0 kindsE) (hs : Hs G h L) (hk : Q (if isK k then .tuple ⟨[I (laneK k.toNat), I 0]⟩ else .tuple ⟨[I 0, I 15]⟩) h) : Cl Pr K 12 [I k] h Q := by
  refine c12 (b12_0 (is_ok (r_not (r_brn (r_br (fun h1 => ?_) (fun h1 => ?_))))))
  · rw [if_pos h1] at hk
    obtain ⟨n, rfl, hn1, hn⟩ := k_of h1
    refine r_idxAg hn (r_padd (r_ldo hs hkd (o := n * 9) (j := 1) (kinds_lane hn) hk))
  · rw [if_neg h1] at hk; exact hk
theorem home_ok {k : Int} {Q : Value → AH → Prop} (hkd : Ob G 0 kindsE) (hs : Hs G h L) (hk : Q (.bool (decide (isK k ∧ (laneK k.toNat = 0 ∨ laneK k.toNat = 1)))) h) : Cl Pr K 14 [I k] h Q := by
  refine c14 (b14_0 (lane_ok hkd hs ?_))
  by_cases h1 : isK k
  · rw [if_pos h1]
    refine r_ext rfl (r_ext rfl (r_eqI (r_brT rfl (r_eqI (r_br (fun h2 => ?_) (fun h2 => r_eqI ?_))))))
    · rw [decide_eq_true ⟨h1, .inl h2⟩] at hk; exact hk
    · rw [show decide (laneK k.toNat = 1) = decide (isK k ∧ (laneK k.toNat = 0 ∨ laneK k.toNat = 1)) from decide_eq_decide.2 ⟨fun h => ⟨h1, .inr h⟩, fun h => h.2.resolve_left h2⟩]; exact hk
  · rw [if_neg h1]
    refine r_ext rfl (r_ext rfl (r_eqI (r_brF (by omega) ?_)))
    rw [decide_eq_false (fun e => h1 e.1)] at hk; exact hk
theorem get_ok {n : Note} {f : Int} (hf : 1 ≤ f ∧ f ≤ 13) {Q : Value → AH → Prop} (hs : Hs G h L) (hk : ∀ h', Hs G h' L → Q (I (getN n f)) h') : Cl Pr K 19 [.agg ⟨n.enc⟩, I f] h Q := by
  refine c19 (b19_0 (r_bx hs ?_))
  intro p h hs
  have hk := hk h hs.tail
  rcases f13 hf with rfl | rfl | rfl | rfl | rfl | rfl | rfl | rfl | rfl | rfl | rfl | rfl | rfl
  all_goals
    repeat' first
      | refine r_eqI ?_
      | refine r_brT (by decide) ?_
      | refine r_brF (by decide) ?_
      | refine b19_1 ?_
      | refine b19_2 ?_
      | refine b19_3 ?_
      | refine b19_4 ?_
      | refine b19_5 ?_
      | refine b19_6 ?_
      | refine b19_7 ?_
      | refine b19_8 ?_
      | refine b19_9 ?_
      | refine b19_10 ?_
      | refine b19_11 ?_
      | refine b19_12 ?_
      | refine r_padd ?_
      | refine r_idxA (by omega) (by omega) ?_
      | refine r_ld hs rfl ?_
  all_goals first | exact hk | skip
  refine r_brb (fun hb => ?_) (fun hb => ?_)
  · unfold getN at hk; simpa [hb] using hk
  · unfold getN at hk; simpa [hb] using hk
theorem set_ok {p : Nat} {n : Note} {f v : Int} (hf : 1 ≤ f ∧ f ≤ 13) {Q : Value → AH → Prop} (hs : Hs G h (seg p 0 n.enc :: L)) (hk : ∀ h', Hs G h' (seg p 0 (setN n f v).enc :: L) → Q (.tuple ⟨[]⟩) h') : Cl Pr K 23 [pt p 0 0, I f, I v] h Q := by
  refine c23 (b23_0 ?_)
  rcases f13 hf with rfl | rfl | rfl | rfl | rfl | rfl | rfl | rfl | rfl | rfl | rfl | rfl | rfl
  all_goals
    repeat' first
      | refine r_eqI ?_
      | refine r_neI ?_
      | refine r_brT (by decide) ?_
      | refine r_brF (by decide) ?_
      | refine b23_1 ?_
      | refine b23_2 ?_
      | refine b23_3 ?_
      | refine b23_4 ?_
      | refine b23_5 ?_
      | refine b23_6 ?_
      | refine b23_7 ?_
      | refine b23_8 ?_
      | refine b23_9 ?_
      | refine b23_10 ?_
      | refine b23_11 ?_
      | refine r_nilP ?_
      | refine r_padd ?_
      | refine r_idxA (by omega) (by omega) ?_
    refine r_sto hs rfl rfl rfl rfl ?_
    intro h hs
    exact hk h hs
theorem mayB {a b : Prop} [Decidable a] [Decidable b] {Q : Value → AH → Prop} (h1 : a ↔ b) (hk : Q (.bool (decide b)) h) : Q (.bool (decide a)) h := by rwa [show decide a = decide b from decide_eq_decide.2 h1]
theorem mayF {b : Prop} [Decidable b] {Q : Value → AH → Prop} (h1 : ¬ b) (hk : Q (.bool (decide b)) h) : Q (.bool false) h := by rwa [decide_eq_false h1] at hk
theorem mayT {b : Prop} [Decidable b] {Q : Value → AH → Prop} (h1 : b) (hk : Q (.bool (decide b)) h) : Q (.bool true) h := by rwa [decide_eq_true h1] at hk
theorem may_ok {C : Cfg} (hC : C.Ok) {f v : Int} (hf : 1 ≤ f ∧ f ≤ 13) {Q : Value → AH → Prop} (hl : Ob G 1 limE) (hs : Hs G h L) (hk : ∀ h', Hs G h' L → Q (.bool (decide (mayP C f v))) h') : Cl Pr K 22 [.agg ⟨C.enc⟩, I f, I v] h Q := by
  refine c22 (b22_0 (r_bx hs ?_))
  intro p h hs
  have hk1 := hk h hs.tail
  unfold mayP at hk hk1
  rcases f13 hf with rfl | rfl | rfl | rfl | rfl | rfl | rfl | rfl | rfl | rfl | rfl | rfl | rfl
  all_goals
    repeat' first
      | refine r_brT (by decide) ?_
      | refine r_brF (by decide) ?_
      | refine r_eqI ?_
      | refine b22_1 ?_
      | refine b22_2 ?_
      | refine b22_3 ?_
      | refine b22_4 ?_
      | refine b22_5 ?_
      | refine b22_6 ?_
      | refine b22_7 ?_
      | refine b22_8 ?_
      | refine b22_9 ?_
      | refine b22_10 ?_
      | refine b22_11 ?_
  all_goals simp only [Int.reduceEq, if_true, if_false, or_true, true_or, or_self, or_false, false_or, decide_true] at hk hk1
  · exact r_geI (r_br (fun h1 => r_padd (r_ld hs rfl (r_ltI (mayB (by omega) hk1)))) (fun h1 => mayF (by omega) hk1))
  · exact r_geI (r_br (fun h1 => r_ldN hs (by decide) (l := C.enc) rfl rfl (lines_ok hC hl hs fun h hs => r_ltI (mayB (by omega) (hk h hs.tail)))) (fun h1 => mayF (by omega) hk1))
  · exact r_geI (r_br (fun h1 => r_leI (mayB (by omega) hk1)) (fun h1 => mayF (by omega) hk1))
  · exact r_geI (r_br (fun h1 => r_leI (mayB (by omega) hk1)) (fun h1 => mayF (by omega) hk1))
  · exact r_geI (r_br (fun h1 => r_leI (mayB (by omega) hk1)) (fun h1 => mayF (by omega) hk1))
  · exact (r_br (fun h1 => mayT (by omega) hk1) (fun h1 => r_eqI (r_br (fun h2 => mayT (by omega) hk1) (fun h2 => r_eqI (mayB (by omega) hk1)))))
  · exact (r_br (fun h1 => mayT (by omega) hk1) (fun h2 => r_eqI (mayB (by omega) hk1)))
  · exact hk1
  · exact hk1
  · exact (r_br (fun h1 => mayT (by omega) hk1) (fun h2 => r_eqI (mayB (by omega) hk1)))
  · exact (r_br (fun h1 => mayT (by omega) hk1) (fun h2 => r_eqI (mayB (by omega) hk1)))
  · exact r_geI (r_br (fun h1 => r_ltI (mayB (by omega) hk1)) (fun h1 => mayF (by omega) hk1))
  · exact r_geI (r_br (fun h1 => r_padd (r_ld hs rfl (r_ltI (mayB (by omega) hk1)))) (fun h1 => mayF (by omega) hk1))
end Go.Proofs.YtjchglfcndckhaaDoor
end
section
namespace Go.Proofs.YtjchglfcndckhaaDoor
open Go Go.Ab Go.Hm Go.Nt
theorem neN {a n : Note} {k : Value → Prop} (hk : k (.bool (decide (a ≠ n)))) : thn (biA [0, 0, 0, 0, 0, 0, 0, 1, 0] .neq (.agg ⟨a.enc⟩) (.agg ⟨n.enc⟩)) k := by
  refine ⟨_, ?_, hk⟩
  cases a; cases n
  simp [biA, cmpK, cmp1, eqn, Note.enc]
  rw [Bool.eq_iff_iff]
  simp
attribute [local irreducible] thn Br ld1 ldN stV alc alcAt alcS alcSAt resv padd nilV extV part1 partN lenS lenT biI biT biB biP biS biF biE biA unV idxS idxA pickV appV copyV clearV slS slA slT mkS blkOf at1 atN atS convI convS minV maxV Cl OkF OkR EndX endV beginV defersOf setLoop closeMarks
variable {G : Bg} {h : AH} {L L' : List HP}
theorem r_ends {P : Program} {f : FuncId} {p : List Nat} {n l d : Nat} {e : Nat → Value} {st : LoopState} {pd : Option Code} {k : Option Code × AH → Prop} (hs : Hs G h L) [m : HasLp l L ⟨P, f, p, n, e, d, st, pd⟩ L'] (hst : st ≠ .busy) (hk : ∀ h', Hs G h' L' → k (pd, h')) : thn (endV h l) k :=
  r_end (P := P) (f := f) (p := p) (n := n) (e := e) (d := d) (st := st) (pd := pd) (k := fun a b => k (a, b)) (show Hs G h (lpT P f p n e d l (st, pd) :: L') from m.of hs) hst hk
theorem at7 {l : List Int} {i : Nat} {k : Value → Prop} (hl : l.length = 7) (hi : i < 7) (hk : k (I (l.getD i 0))) : thn (at1 7 1 (.agg ⟨l.map I⟩) (I i)) k :=
  r_at1 hi (by rw [List.getElem?_map, List.getElem?_eq_getElem (by omega), List.getD_eq_getElem?_getD, List.getElem?_eq_getElem (by omega)]; rfl) hk
theorem fields_ok {k : Int} {Q : Value → AH → Prop} (hs : Hs G h L) (hk : ∀ p h', Hs G h' (seg p 0 [I k] :: L) → Q (.func (.func 31) #[] #[pt p 0 0]) h') : Cl Pr K 17 [I k] h Q := by
  refine c17 (b17_0 (r_bx hs ?_))
  intro p h hs
  exact hk p h hs
theorem fields_y {p n : Nat} (hkd : Ob G 0 kindsE) (hn : n < 14) : Yds Pr K G 31 [] [pt p 0 0] (seg p 0 [I n]) ((flds n).map fun f => [I f]) := by
  intro I' J y L h Q hs hy h1 h2
  refine c31 (b31_0 (r_ld hs rfl (r_idxAg hn (r_padd (r_ldNo hs hkd (l := (arrK n).map I) (kinds_arr hn) (by rw [List.length_map, arr_len hn]) (by rw [kinds_len]; omega) ?_)))))
  have hl := arr_len hn
  have loop : ∀ (f i : Nat) (h : AH), i + f = 7 → Hs G h (seg p 0 [I n] :: I' ((ws (arrK n) f i).map fun f => [I f]) :: L) → A31_1 Q y (.agg ⟨(arrK n).map I⟩) (I i) h := by
    intro f
    induction f with
    | zero =>
      intro i h hi hs
      exact b31_1 (r_ltI (r_brF (by omega) (h1 _ h hs)))
    | succ f ih =>
      intro i h hi hs
      unfold ws at hs
      refine b31_1 (r_ltI (r_brT (by omega) (b31_2 (at7 hl (by omega) (r_eqI (r_br (fun h0 => ?_) (fun h0 => ?_)))))))
      · rw [if_pos h0] at hs; exact h1 _ h hs
      · rw [if_neg h0] at hs
        refine (hy _ _ h _ hs.at2).mono fun v h' hv => ?_
        rcases hv with ⟨rfl, hs'⟩ | ⟨rfl, hs'⟩
        · exact r_not (r_brf (b31_3 (r_addI (by omega) (ih (i + 1) h' (by omega) hs'.at2))))
        · exact r_not (r_brt (h2 _ h' hs'.at2))
  exact loop 7 0 h rfl hs
/-- what the loop over the fields has done by then -/
def ckC (C : Cfg) (n : Note) (p2 p3 p5 p6 l d : Nat) (e : Nat → Value) (rest : List (List Value)) (fs : List Int) (a : Note) : List HP :=
  [puH (rest = fs.map fun f => [I f]), puH (∀ f ∈ fs, 1 ≤ f ∧ f ≤ 13), puH (walkN C n fs a = walkN C n (flds n.kind.toNat) (kindN n.kind)), lpT Pr 8 (dcd 1786) 41 e d l (.ready, none), seg p2 0 C.enc, seg p3 0 n.enc, seg p5 0 [.bool true], seg p6 0 a.enc]
def ckI (C : Cfg) (n : Note) (p2 p3 p5 p6 l d : Nat) (e : Nat → Value) (rest : List (List Value)) : HP := exH fun x : List Int × Note => sp (ckC C n p2 p3 p5 p6 l d e rest x.1 x.2)
def ckJ (C : Cfg) (n : Note) (p2 p3 p5 p6 l d : Nat) (e : Nat → Value) : HP := exH fun a : Note => sp [puH ((walkN C n (flds n.kind.toNat) (kindN n.kind)).1 = false), lpT Pr 8 (dcd 1786) 41 e d l (.done, some (.exit 0)), seg p2 0 C.enc, seg p3 0 n.enc, seg p5 0 [.bool false], seg p6 0 a.enc]
theorem check_loop_in {C : Cfg} {n : Note} {p2 p3 p5 p6 l d : Nat} {e : Nat → Value} {rest : List (List Value)} {fs : List Int} {a : Note} (h1 : rest = fs.map fun f => [I f]) (h2 : ∀ f ∈ fs, 1 ≤ f ∧ f ≤ 13) (h3 : walkN C n fs a = walkN C n (flds n.kind.toNat) (kindN n.kind))
    (hs : Hs G h (sp [lpT Pr 8 (dcd 1786) 41 e d l (.ready, none), seg p2 0 C.enc, seg p3 0 n.enc, seg p5 0 [.bool true], seg p6 0 a.enc] :: L)) : Hs G h (ckI C n p2 p3 p5 p6 l d e rest :: L) :=
  Hs.exI (A := fun x : List Int × Note => sp (ckC C n p2 p3 p5 p6 l d e rest x.1 x.2)) (fs, a) (sp_pu h1 (sp_pu h2 (sp_pu h3 hs)))
theorem check_loop_out {C : Cfg} {n : Note} {p2 p3 p5 p6 l d : Nat} {e : Nat → Value} {rest : List (List Value)} (hs : Hs G h (ckI C n p2 p3 p5 p6 l d e rest :: L)) : ∃ fs a, (rest = fs.map fun f => [I f]) ∧ (∀ f ∈ fs, 1 ≤ f ∧ f ≤ 13) ∧ walkN C n fs a = walkN C n (flds n.kind.toNat) (kindN n.kind) ∧
    Hs G h (lpT Pr 8 (dcd 1786) 41 e d l (.ready, none) :: seg p2 0 C.enc :: seg p3 0 n.enc :: seg p5 0 [.bool true] :: seg p6 0 a.enc :: L) := by
  obtain ⟨⟨fs, a⟩, hs⟩ := Hs.exE hs
  obtain ⟨h1, hs⟩ := sp_puE hs
  obtain ⟨h2, hs⟩ := sp_puE hs
  obtain ⟨h3, hs⟩ := sp_puE hs
  exact ⟨fs, a, h1, h2, h3, hs.unpack⟩
theorem chk_ok {C : Cfg} {n : Note} {Q : Value → AH → Prop} (hkd : Ob G 0 kindsE) (hl : Ob G 1 limE) (hs : Hs G h L) (hk : ∀ h', Hs G h' L → Q (I (chk C n)) h') : Cl Pr K 8 [.agg ⟨C.enc⟩, .agg ⟨n.enc⟩] h Q := by
  unfold chk at hk
  refine c8 (b8_0 (r_bx hs ?_))
  intro p2 h hs
  refine r_bx hs ?_
  intro p3 h hs
  refine r_padd (r_ld hs rfl (is_ok (r_not (r_brn (r_br (fun h1 => b8_1 ?_) (fun h1 => r_cm0 ?_))))))
  · rw [if_pos h1] at hk
    refine r_ldN hs (by decide) (l := C.enc) rfl rfl (check_ok hl hs fun h hs => ?_)
    by_cases hC : C.Ok
    · rw [if_pos hC] at hk ⊢
      refine r_neI (r_brF (by omega) (b8_2 (r_new hs ?_)))
      intro p5 h hs
      refine r_stW hs rfl rfl rfl rfl ?_
      intro h hs
      refine r_padd (r_ld hs rfl (r_fill (c := (kindN n.kind).enc) rfl (r_new hs ?_)))
      intro p6 h hs
      refine r_stW hs rfl rfl rfl rfl ?_
      intro h hs
      obtain ⟨m, hm, hm1, hm2⟩ := k_of h1
      refine r_padd (r_ld hs rfl ?_)
      rw [hm]
      refine fields_ok hs fun p h hs => r_marks hs fun d h hs => ?_
      intro e he
      refine r_loop hs fun l h hs => ?_
      refine r_okR (by kernel_rfl) ?_
      have hin := flds_in (k := m) hm2
      have hst : Hs G h (seg p 0 [I m] :: ckI C n p2 p3 p5 p6 l d e ((flds m).map fun f => [I f]) :: mk d () :: L) := by
        refine Hs.at2 (check_loop_in (fs := flds m) (a := kindN n.kind) rfl hin (by rw [hm]; rfl) ?_)
        exact hs.to
      clear hs
      refine fields_y hkd hm2 _ (ckJ C n p2 p3 p5 p6 l d e) _ _ h _ hst ?_ ?_ ?_
      · intro x rest h M hs
        obtain ⟨fs, a, h1, h2, h3, hq⟩ := check_loop_out hs
        clear hs
        cases fs with
        | nil => cases h1
        | cons f fs =>
          simp only [List.map_cons, List.cons.injEq] at h1
          obtain ⟨rfl, rfl⟩ := h1
          have hf := h2 f List.mem_cons_self
          refine r8_0 (r_atv hq) he (b8_3 ?_)
          refine r_beginv hq fun h hs => ?_
          refine r_ldN (b := p3) (o := 0) hs (by decide) (l := n.enc) rfl rfl (get_ok hf hs fun h hs => ?_)
          refine r_ldN (b := p2) (o := 0) hs (by decide) (l := C.enc) rfl rfl (may_ok hC hf hl hs fun h hs => r_not (r_brn (r_br (fun hy => ?_) (fun hy => ?_))))
          · refine set_ok (p := p6) (n := a) hf (hs.front (seg p6 0 a.enc)) fun h hs => r_setv hs fun h hs => ?_
            refine .inl ⟨rfl, check_loop_in (fs := fs) (a := setN a f (getN n f)) rfl (fun g hg => h2 g (List.mem_cons_of_mem _ hg)) ?_ hs.to⟩
            rw [← h3, walkN, if_pos hy]
          · refine r_stW hs rfl rfl rfl rfl ?_
            intro h hs
            refine r_setv hs fun h hs => .inr ⟨rfl, ?_⟩
            refine Hs.exI (A := fun a : Note => sp [puH ((walkN C n (flds n.kind.toNat) (kindN n.kind)).1 = false), lpT Pr 8 (dcd 1786) 41 e d l (.done, some (.exit 0)), seg p2 0 C.enc, seg p3 0 n.enc, seg p5 0 [.bool false], seg p6 0 a.enc]) a (sp_pu ?_ hs.to)
            rw [← h3, walkN, if_neg hy]
      · intro v h' hs
        obtain ⟨fs, a, h1, h2, h3, hs⟩ := check_loop_out hs.at2
        cases fs with
        | cons f fs => cases h1
        | nil =>
          rw [walkN] at h3
          rw [← h3] at hk
          refine r_endv hs fun h' hs => r_endN ?_
          refine r_ld hs rfl (r_not ?_)
          refine (r_brf (r_ldN (b := p6) (o := 0) hs (by decide) (l := a.enc) rfl rfl (r_ldN (b := p3) (o := 0) hs (by decide) (l := n.enc) rfl rfl (neN (r_br (fun hne => ?_) (fun hne => ?_))))))
          · refine r_cm1 hs fun h' hs => r_cm0 ?_
            have := hk h' hs.to
            rwa [if_neg (fun e => hne e.2)] at this
          · refine r_cm1 hs fun h' hs => r_cm0 ?_
            have := hk h' hs.to
            rwa [if_pos ⟨rfl, by simpa using hne⟩] at this
      · intro v h' hs
        obtain ⟨a, hs⟩ := Hs.exE hs.at2
        obtain ⟨h1, hs⟩ := sp_puE hs
        have hs := hs.unpack
        refine r_ends hs (by decide) fun h' hs => r_endE rfl ?_
        refine r_ld hs rfl (r_not ?_)
        refine (r_brt (r_cm1 hs fun h' hs => r_cm0 ?_))
        have := hk h' hs.to
        rwa [if_neg (fun e => by rw [h1] at e; cases e.1)] at this
    · rw [if_neg hC] at hk ⊢
      refine r_neI (r_brT (by omega) (r_cm0 (hk h hs.to)))
  · rw [if_neg h1] at hk
    exact hk h hs.to
end Go.Proofs.YtjchglfcndckhaaDoor
end
section
namespace Go.Proofs.YtjchglfcndckhaaDoor
open Go Go.Ab Go.Hm Go.Nt
theorem chk0 {C : Cfg} {n : Note} (h : chk C n = 0) : isK n.kind ∧ C.Ok := by
  unfold chk at h
  split at h
  · rename_i h1
    split at h
    · exact ⟨h1, by assumption⟩
    · omega
  · omega
theorem chk10 {C : Cfg} {n : Note} (h1 : isK n.kind) (h2 : C.Ok) (h : chk C n ≠ 0) : chk C n = 10 := by
  unfold chk at h ⊢
  rw [if_pos h1, if_pos h2] at h ⊢
  split
  · rename_i h3; rw [if_pos h3] at h; exact absurd rfl h
  · rfl
theorem flds_core {k : Nat} (h1 : 1 ≤ k) (h : k < 14) : ∃ r, flds k = 1 :: r := by
  rcases k14 h with rfl | rfl | rfl | rfl | rfl | rfl | rfl | rfl | rfl | rfl | rfl | rfl | rfl | rfl
  · omega
  all_goals exact ⟨_, rfl⟩
theorem chk_core {C : Cfg} {n : Note} {v : Int} (h1 : isK n.kind) (h2 : C.Ok) (hv : C.cores ≤ v) : chk C { n with core := v } = 10 := by
  refine chk10 h1 h2 fun h => ?_
  unfold chk at h
  have h1' : isK ({ n with core := v } : Note).kind := h1
  rw [if_pos h1', if_pos h2] at h
  obtain ⟨r, hr⟩ := flds_core (k := n.kind.toNat) (by unfold isK at h1; omega) (by unfold isK at h1; omega)
  have : walkN C { n with core := v } (flds ({ n with core := v } : Note).kind.toNat) (kindN ({ n with core := v } : Note).kind) = (false, kindN n.kind) := by
    show walkN C { n with core := v } (flds n.kind.toNat) (kindN n.kind) = _
    rw [hr, walkN, if_neg]
    show ¬ mayP C 1 v
    unfold mayP
    rw [if_pos rfl]; omega
  rw [this] at h
  simp at h
theorem chk_done {C : Cfg} {m : Note} (hk : m.kind = 4 ∨ m.kind = 10) (h : chk C m = 0) : m.no = 0 ∧ m.dirty = false ∧ m.d1 = 0 := by
  have hf : flds m.kind.toNat = [1, 2] := by rcases hk with e | e <;> rw [e] <;> rfl
  obtain ⟨a1, a2⟩ := chk0 h
  unfold chk at h
  rw [if_pos a1, if_pos a2, hf] at h
  split at h
  · rename_i h3
    obtain ⟨h3, h4⟩ := h3
    unfold walkN at h3 h4
    split at h3
    · rename_i h5
      rw [if_pos h5] at h4
      unfold walkN at h3 h4
      split at h3
      · rename_i h6
        rw [if_pos h6] at h4
        unfold walkN at h4
        have e1 := congrArg Note.no h4
        have e2 := congrArg Note.dirty h4
        have e3 := congrArg Note.d1 h4
        exact ⟨e1.symm, e2.symm, e3.symm⟩
      · cases h3
    · cases h3
  · omega
theorem lanes {k : Int} (h : isK k) : (0 ≤ laneK k.toNat ∧ laneK k.toNat < 4) ∧ ((laneK k.toNat = 0 ∨ laneK k.toNat = 1) ↔ laneK k.toNat < 2) := by
  have : k.toNat < 14 := by unfold isK at h; omega
  have h1 : ∀ k, k < 14 → 0 ≤ laneK k ∧ laneK k < 4 := fun k h => by
    rcases k14 h with rfl | rfl | rfl | rfl | rfl | rfl | rfl | rfl | rfl | rfl | rfl | rfl | rfl | rfl <;> decide
  have := h1 _ this
  exact ⟨this, by omega⟩
theorem r_eqB {a b : Bool} {k : Value → Prop} (hk : k (.bool (a == b))) : thn (biB .eql (.bool a) (.bool b)) k := ⟨_, rfl, hk⟩
theorem r_neB {a b : Bool} {k : Value → Prop} (hk : k (.bool (!(a == b)))) : thn (biB .neq (.bool a) (.bool b)) k := ⟨_, rfl, hk⟩
attribute [local irreducible] thn Br ld1 ldN stV alc alcAt alcS alcSAt resv padd nilV extV part1 partN lenS lenT biI biT biB biP biS biF biE biA unV idxS idxA pickV appV copyV clearV slS slA slT mkS blkOf at1 atN atS convI convS minV maxV Cl OkF OkR EndX endV beginV defersOf setLoop closeMarks
variable {G : Bg} {h : AH} {L L' : List HP}
theorem may1_loop {C : Cfg} {p : Nat} {s : Addr} {Q : Value → AH → Prop} : ∀ (f i : Nat) (h : AH) (g : HP), i + f = 7 → Hs G h (seg p 0 C.enc :: slc 1 3 (some s) 7 (7, limE) :: g :: L) → (∀ h', Hs G h' L → Q (.bool (decide (C.ckF f i = 0))) h') → A27_1 Q (pt p 0 0) (.slice (some s) 7 7) (I i) h := by
  intro f
  induction f with
  | zero =>
    intro i h g hi hs hk
    exact b27_1 (r_ltI (r_brF (by omega) (by simpa [Cfg.ckF] using hk h hs.tail.tail.tail)))
  | succ f ih =>
    intro i h g hi hs hk
    have h7 : i < 7 := by omega
    refine b27_1 (r_ltI (r_brT (by omega) (b27_2 (r_resv hs ?_))))
    intro rv h hs
    have hc : C.enc[0 + i * 1]? = some (I (C.list.getD i 0)) := by
      have : i = 0 ∨ i = 1 ∨ i = 2 ∨ i = 3 ∨ i = 4 ∨ i = 5 ∨ i = 6 := by omega
      rcases this with rfl | rfl | rfl | rfl | rfl | rfl | rfl <;> rfl
    have hl : limE[i * 1 + 0]? = some (I (limL.getD i 0)) := by
      have : i = 0 ∨ i = 1 ∨ i = 2 ∨ i = 3 ∨ i = 4 ∨ i = 5 ∨ i = 6 := by omega
      rcases this with rfl | rfl | rfl | rfl | rfl | rfl | rfl <;> rfl
    have hs : Hs G h (seg p 0 C.enc :: slc 1 3 (some s) 7 (7, limE) :: sp [frK rv (14, []), g] :: L) := hs.to
    have hend := hs.tail.tail.tail
    rw [Cfg.ckF] at hk
    obtain ⟨b, o, hbo, H, hs2, _⟩ := hs.at2.slcOpen (by omega)
    cases hbo
    refine r_idxAn h7 (r_ld hs hc (r_ltI (r_br (fun h1 => ?_) (fun h1 => r_idxAn h7 (r_ld hs hc (r_idxN h7 (r_ldI hs2 hl (r_gtI (r_br (fun h2 => ?_) (fun h2 => ?_)))))))))) 
    · have := hk h hend
      rw [if_pos (.inl h1)] at this; exact this
    · have := hk h hend
      rw [if_pos (.inr h2)] at this; exact this
    · rw [if_neg (by omega)] at hk
      exact b27_3 (r_addI (by omega) (ih (i + 1) h _ (by omega) hs hk))
theorem mayC_ok {C : Cfg} {Q : Value → AH → Prop} (hs : Hs G h L) (hk : ∀ h', Hs G h' L → Q (.bool (decide C.Ok)) h') : Cl Pr K 11 [.agg ⟨C.enc⟩] h Q := by
  refine c11 (b11_0 (r_bx hs ?_))
  intro p h hs
  iterate 7 refine r_padd (r_ld hs rfl ?_)
  refine r_fill (c := C.enc) rfl (c27 (b27_0 (r_bx hs ?_)))
  intro p2 h hs
  refine r_fill (c := limE) rfl (r_newS hs rfl rfl rfl ?_)
  intro s h hs
  refine may1_loop (C := C) (L := seg p 0 C.enc :: L) 7 0 h (sp []) rfl hs.to fun h' hs => ?_
  rw [Cfg.ck_eq]
  have := hk h' hs.tail
  rwa [show decide ((if C.Ok then (0 : Int) else 10) = 0) = decide C.Ok from decide_eq_decide.2 (by split <;> simp_all)]
theorem awake_ok {Q : Value → AH → Prop} (hk : Q (.bool true) h) : Cl Pr K 9 [] h Q := by
  unfold Cl
  exact ok_known (v := .bool true) rfl hk
theorem one_3 {p4 : Nat} {n : Note} {Q : Value → AH → Prop} (hkd : Ob G 0 kindsE) (h1 : isK n.kind) (hs : Hs G h (seg p4 0 n.enc :: L)) (hk : ∀ h', Q (.bool true) h') : A6_3 Q (pt p4 0 0) h := by
  obtain ⟨⟨l1, l2⟩, l3⟩ := lanes h1
  refine b6_3 (r_padd (r_ld hs rfl (lane_ok hkd hs ?_)))
  rw [if_pos h1]
  refine r_ext rfl (r_ext rfl (r_eqI (r_brT rfl (r_geI (r_brT (by omega) (r_ltI (r_brT (by omega) (r_padd (r_ld hs rfl (home_ok hkd hs (r_ltI (r_eqB ?_)))))))))))) 
  rw [show decide (isK n.kind ∧ (laneK n.kind.toNat = 0 ∨ laneK n.kind.toNat = 1)) = decide (laneK n.kind.toNat < 2) from decide_eq_decide.2 ⟨fun h => l3.1 h.2, fun h => ⟨h1, l3.2 h⟩⟩, beq_self_eq_true]
  exact r_brt (awake_ok (hk _))
theorem one_ok {C : Cfg} {n : Note} {x : Int} {Q : Value → AH → Prop} (hkd : Ob G 0 kindsE) (hl : Ob G 1 limE) (hs : Hs G h L) (hk : ∀ h', Q (.bool true) h') : Cl Pr K 6 [.agg ⟨C.enc⟩, .agg ⟨n.enc⟩, I x] h Q := by
  refine c6 (b6_0 (r_bx hs ?_))
  intro p3 h hs
  refine r_bx hs ?_
  intro p4 h hs
  refine r_ldN (b := p3) (o := 0) hs (by decide) (l := C.enc) rfl rfl (mayC_ok hs fun h hs => r_not (r_brn (r_br (fun hC => ?_) (fun hC => awake_ok (hk _)))))
  refine r_ltI (r_br (fun hx => awake_ok (hk _)) (fun hx => ?_))
  refine r_ldN (b := p3) (o := 0) hs (by decide) (l := C.enc) rfl rfl (r_ldN (b := p4) (o := 0) hs (by decide) (l := n.enc) rfl rfl (chk_ok hkd hl hs fun h hs => r_neI (r_br (fun h0 => awake_ok (hk _)) (fun h0 => ?_))))
  have h0 : chk C n = 0 := by simpa using h0
  obtain ⟨h1, _⟩ := chk0 h0
  have hcores : 1 ≤ C.cores ∧ C.cores ≤ 4 := hC.1
  refine b6_1 (r_ldN (b := p4) (o := 0) hs (by decide) (l := n.enc) rfl rfl (r_new hs ?_))
  intro pt1 h hs
  refine r_stW hs rfl rfl rfl rfl ?_
  intro h hs
  refine r_padd (r_ld (b := p3) (o := 0) hs rfl (r_subI (by omega) (r_rem (by omega) (by decide) (r_addI (by omega) (r_addI (by omega) (r_padd (r_sto hs rfl rfl rfl rfl ?_)))))))
  intro h hs
  refine r_ldN (b := p3) (o := 0) hs (by decide) (l := C.enc) rfl rfl (r_ldN (b := pt1) (o := 0) hs (by decide) (l := ({ n with core := C.cores - 1 + x % 1000 + 1 } : Note).enc) rfl rfl (chk_ok hkd hl hs fun h hs => ?_))
  rw [chk_core h1 hC (by omega)]
  refine r_neI (r_brF (by omega) (b6_2 ?_))
  have hs : Hs G h (seg p4 0 n.enc :: seg p3 0 C.enc :: L) := hs.to
  have fin : ∀ h g, Hs G h (seg p4 0 n.enc :: g :: L) → A6_3 Q (pt p4 0 0) h := fun h g hs => one_3 hkd h1 hs hk
  have bad : (n.kind = 4 ∨ n.kind = 10) → chk C { n with no := x } = 10 ∧ chk C { n with dirty := true } = 10 ∧ chk C { n with d1 := x } = 10 := fun hd =>
    ⟨chk10 (n := { n with no := x }) h1 hC fun e => by have := (chk_done (m := { n with no := x }) hd e).1; dsimp only at this; omega,
     chk10 (n := { n with dirty := true }) h1 hC fun e => by have := (chk_done (m := { n with dirty := true }) hd e).2.1; exact Bool.noConfusion this,
     chk10 (n := { n with d1 := x }) h1 hC fun e => by have := (chk_done (m := { n with d1 := x }) hd e).2.2; dsimp only at this; omega⟩
  refine r_padd (r_ld hs rfl (r_eqI (r_br (fun h4 => ?_) (fun h4 => r_padd (r_ld hs rfl (r_eqI (r_br (fun h10 => b6_4 ?_) (fun h10 => fin h (seg p3 0 C.enc) hs))))))))
  all_goals
    obtain ⟨b1, b2, b3⟩ := bad (by omega)
    refine r_ldN (b := p4) (o := 0) hs (by decide) (l := n.enc) rfl rfl (r_new hs ?_)
    intro pa h hs
    refine r_stW hs rfl rfl rfl rfl ?_
    intro h hs
    refine r_padd (r_sto hs rfl rfl rfl rfl ?_)
    intro h hs
    refine r_ldN (b := p4) (o := 0) hs (by decide) (l := n.enc) rfl rfl (r_new hs ?_)
    intro pb h hs
    refine r_stW hs rfl rfl rfl rfl ?_
    intro h hs
    refine r_padd (r_sto hs rfl rfl rfl rfl ?_)
    intro h hs
    refine r_ldN (b := p4) (o := 0) hs (by decide) (l := n.enc) rfl rfl (r_new hs ?_)
    intro pd h hs
    refine r_stW hs rfl rfl rfl rfl ?_
    intro h hs
    refine r_padd (r_idxA (by omega) (by omega) (r_sto hs rfl rfl rfl rfl ?_))
    intro h hs
    refine r_ldN (b := p3) (o := 0) hs (by decide) (l := C.enc) rfl rfl (r_ldN (b := pa) (o := 0) hs (by decide) (l := ({ n with no := x } : Note).enc) rfl rfl (chk_ok hkd hl hs fun h hs => ?_))
    rw [b1]
    refine r_neI (r_brF (by omega) ?_)
    refine r_ldN (b := p3) (o := 0) hs (by decide) (l := C.enc) rfl rfl (r_ldN (b := pb) (o := 0) hs (by decide) (l := ({ n with dirty := true } : Note).enc) rfl rfl (chk_ok hkd hl hs fun h hs => ?_))
    rw [b2]
    refine r_neI (r_brF (by omega) ?_)
    refine r_ldN (b := p3) (o := 0) hs (by decide) (l := C.enc) rfl rfl (r_ldN (b := pd) (o := 0) hs (by decide) (l := ({ n with d1 := x } : Note).enc) rfl rfl (chk_ok hkd hl hs fun h hs => ?_))
    rw [b3]
    exact r_neI (r_brF (by omega) (fin h (seg p3 0 C.enc) hs.to))
end Go.Proofs.YtjchglfcndckhaaDoor
end
