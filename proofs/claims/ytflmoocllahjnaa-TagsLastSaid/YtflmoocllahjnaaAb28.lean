/- The abstract machine: heaps whose text is not told. -/
import Derived.Test.YtflmoocllahjnaaAb27
namespace Go.Ab
variable {P : Program} {K : FuncId → List Value → Option Value}

/-- From 'h' on; of what was there, only blocks of 'F' may be others. -/
structure To (F : Nat → Prop) (h h' : AH) : Prop where
  base : h'.base = h.base
  next : h.next ≤ h'.next
  wf : h'.base ≤ h'.next
  keep : ∀ i, i < h.next → ¬ F i → h'.get i = h.get i
def No : Nat → Prop := fun _ => False
theorem To.refl {h : AH} (w : h.base ≤ h.next) : To No h h := ⟨rfl, Nat.le_refl _, w, fun _ _ _ => rfl⟩
theorem To.mono {F F' : Nat → Prop} {h h' : AH} (t : To F h h') (k : ∀ i, i < h.next → F i → F' i) : To F' h h' := ⟨t.base, t.next, t.wf, fun i hi hf => t.keep i hi fun x => hf (k i hi x)⟩
theorem To.trans {F F' : Nat → Prop} {h h1 h2 : AH} (a : To F h h1) (b : To F' h1 h2) (k : ∀ i, i < h.next → F' i → F i) : To F h h2 :=
  ⟨b.base.trans a.base, Nat.le_trans a.next b.next, b.wf, fun i hi hf => (b.keep i (Nat.lt_of_lt_of_le hi a.next) fun x => hf (k i hi x)).trans (a.keep i hi hf)⟩
theorem To.get {h h' : AH} (t : To No h h') {i : Nat} (hi : i < h.next) : h'.get i = h.get i := t.keep i hi fun x => x

theorem alc_to {h : AH} {b : Blk} {p : AH → Prop} (w : h.base ≤ h.next) (k : ∀ h1, To No h h1 → h1.next = h.next + 1 → h1.get h.next = some b → p h1) : alc h b p :=
  k _ ⟨rfl, Nat.le_succ _, Nat.le_succ_of_le w, fun i hi _ => by rw [AH.get_alloc w, if_neg (by omega)]⟩ rfl (by rw [AH.get_alloc w, if_pos rfl])
theorem resv_to {h : AH} {n : Nat} {p : AH → Prop} (w : h.base ≤ h.next) (k : ∀ h1, To No h h1 → h1.next = h.next + n → (∀ i, h1.get i = h.get i) → p h1) : resv h n p :=
  k _ ⟨rfl, Nat.le_add_right _ _, Nat.le_trans w (Nat.le_add_right _ _), fun _ _ _ => rfl⟩ rfl fun _ => rfl
theorem alcAt_to {h : AH} {r : Nat} {b : Blk} {p : AH → Prop} (w : h.base ≤ h.next) (hr : h.base ≤ r) (k : ∀ h1, To (· = r) h h1 → h1.next = h.next → h1.get r = some b → p h1) : alcAt h r b p :=
  k _ ⟨by simp, by simp, by simp; exact w, fun i _ hf => by rw [AH.get_set hr, if_neg hf]⟩ (by simp) (by rw [AH.get_set hr, if_pos rfl])
theorem st_to {h : AH} {n i o : Nat} {v : Value} {vs c : List Value} {e : TypeId} {x : Bool} {p : AH → Prop} (w : h.base ≤ h.next) (hb : h.base ≤ i) (hg : h.get i = some (.cells c e (0, 0) x)) (hv : cellsOfV v = some vs) (hc : vs.all cellB = true) (hn : vs.length = n) (hl : o + n ≤ c.length)
    (k : ∀ h1, To (· = i) h h1 → h1.next = h.next → h1.get i = some (.cells (splice c o vs) e (0, 0) x) → p h1) : thn (stV h n (.pointer (some ⟨i, o, none⟩)) v) p := by
  refine ⟨h.set i (some (.cells (splice c o vs) e (0, 0) x)), ?_, k _ ⟨by simp, by simp, by simp; exact w, fun j _ hf => by rw [AH.get_set hb, if_neg hf]⟩ (by simp) (by rw [AH.get_set hb, if_pos rfl])⟩
  simp only [stV, hv, hn, if_true, storeCellsAt, Option.isSome_none, Bool.false_or, decide_eq_true_eq, hc, Bool.not_true, Bool.or_false, hg]
  rw [if_neg (by simpa using hb), if_pos ⟨trivial, by omega⟩]

theorem ld1_of {h : AH} {i o : Nat} {c : List Value} {e : TypeId} {fz : Nat × Nat} {x : Bool} {v : Value} (hg : h.get i = some (.cells c e fz x)) (hc : c[o]? = some v) : ld1 h (.pointer (some ⟨i, o, none⟩)) = some v := by
  simp [ld1, hg, hc]
theorem ldN_of {h : AH} {i o n : Nat} {c : List Value} {e : TypeId} {fz : Nat × Nat} {x : Bool} (hg : h.get i = some (.cells c e fz x)) (hc : o + n ≤ c.length) : ldN h n (.pointer (some ⟨i, o, none⟩)) = some (.agg ⟨(c.drop o).take n⟩) := by
  simp [ldN, loadCellsAt, hg, hc]
@[simp] theorem nilV_ptr {a : Addr} : nilV (.pointer (some a)) = some (.pointer (some a)) := rfl
@[simp] theorem padd_ptr {i o n : Nat} : padd n (.pointer (some ⟨i, o, none⟩)) = some (.pointer (some ⟨i, o + n, none⟩)) := by simp [padd, Addr.add]
theorem idxS_of {i o n c sz : Nat} {k : IntKind} {x : Int} (h0 : 0 ≤ x) (h1 : x < n) : idxS sz (.slice (some ⟨i, o, none⟩) n c) (.int k x) = some (.pointer (some ⟨i, o + x.toNat * sz, none⟩)) := by
  simp [idxS, h0, h1, Addr.add]
theorem idxA_of {i o n sz : Nat} {k : IntKind} {x : Int} (h0 : 0 ≤ x) (h1 : x < n) : idxA n sz (.pointer (some ⟨i, o, none⟩)) (.int k x) = some (.pointer (some ⟨i, o + x.toNat * sz, none⟩)) := by
  simp [idxA, h0, h1, Addr.add]
@[simp] theorem lenS_slice {a : Option Addr} {n c : Nat} : lenS (.slice a n c) = some (.int .i64 n) := rfl
@[simp] theorem lenT_str {s : ByteArray} : lenT (.string s) = some (.int .i64 s.size) := rfl
@[simp] theorem extV_tuple {i : Nat} {vs : Array Value} : extV i (.tuple vs) = vs.toList[i]? := rfl
@[simp] theorem pickV_bool {t : Bool} {a b : Value} : pickV (.bool t) a b = some (if t then a else b) := rfl
@[simp] theorem unV_not {b : Bool} : unV .not (.bool b) = some (.bool !b) := rfl
@[simp] theorem abin_int {op : BinOp} {t : TypeId} {x y : Operand} {k : IntKind} {m n : Int} : abin P op t x y (.int k m) (.int k n) = aint op k m n := by simp [abin]
@[simp] theorem aint_add {k : IntKind} {x y : Int} : aint .add k x y = some (.int k (k.wrap (x + y))) := rfl
@[simp] theorem aint_sub {k : IntKind} {x y : Int} : aint .sub k x y = some (.int k (k.wrap (x - y))) := rfl
@[simp] theorem aint_mul {k : IntKind} {x y : Int} : aint .mul k x y = some (.int k (k.wrap (x * y))) := rfl
@[simp] theorem aint_eql {k : IntKind} {x y : Int} : aint .eql k x y = some (.bool (x == y)) := rfl
@[simp] theorem aint_neq {k : IntKind} {x y : Int} : aint .neq k x y = some (.bool (x != y)) := rfl
@[simp] theorem aint_lss {k : IntKind} {x y : Int} : aint .lss k x y = some (.bool (decide (x < y))) := rfl
@[simp] theorem aint_leq {k : IntKind} {x y : Int} : aint .leq k x y = some (.bool (decide (x ≤ y))) := rfl
@[simp] theorem aint_gtr {k : IntKind} {x y : Int} : aint .gtr k x y = some (.bool (decide (x > y))) := rfl
@[simp] theorem aint_geq {k : IntKind} {x y : Int} : aint .geq k x y = some (.bool (decide (x ≥ y))) := rfl
theorem aint_rem {k : IntKind} {x y : Int} (h : y ≠ 0) : aint .rem k x y = some (.int k (x.tmod y)) := by simp [aint, h]
theorem aint_quo {k : IntKind} {x y : Int} (h : y ≠ 0) : aint .quo k x y = some (.int k (k.wrap (x.tdiv y))) := by simp [aint, h]
@[simp] theorem Br_dec {c : Prop} [Decidable c] {p q : Prop} : Br (.bool (decide c)) p q ↔ (c → p) ∧ (¬ c → q) := by rw [Br_bool]; simp
@[simp] theorem Br_beq {x y : Int} {p q : Prop} : Br (.bool (x == y)) p q ↔ (x = y → p) ∧ (x ≠ y → q) := by rw [Br_bool]; simp
@[simp] theorem Br_bne {x y : Int} {p q : Prop} : Br (.bool (x != y)) p q ↔ (x ≠ y → p) ∧ (x = y → q) := by rw [Br_bool]; simp
@[simp] theorem Br_notb {b : Bool} {p q : Prop} : Br (.bool !b) p q ↔ Br (.bool b) q p := by cases b <;> simp
@[simp] theorem blkOf_int {e : TypeId} {k : IntKind} {n : Int} : blkOf e (.int k n) = some (.cells [.int k n] e (0, 0) true) := rfl
@[simp] theorem blkOf_agg {e : TypeId} {l : List Value} : blkOf e (.agg ⟨l⟩) = some (.cells l e (0, 0) true) := rfl
@[simp] theorem cellsOfV_agg {l : List Value} : cellsOfV (.agg ⟨l⟩) = some l := rfl
@[simp] theorem cellsOfV_int {k : IntKind} {n : Int} : cellsOfV (.int k n) = some [.int k n] := rfl
@[simp] theorem cellsOfV_slice {a : Option Addr} {n c : Nat} : cellsOfV (.slice a n c) = some [.slice a n c] := rfl
@[simp] theorem cellsOfV_ptr {a : Option Addr} : cellsOfV (.pointer a) = some [.pointer a] := rfl
@[simp] theorem cellsOfV_bool {b : Bool} : cellsOfV (.bool b) = some [.bool b] := rfl
@[simp] theorem cellsOfV_str {s : ByteArray} : cellsOfV (.string s) = some [.string s] := rfl

end Go.Ab
