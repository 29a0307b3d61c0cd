/- Separate parts of an abstract heap: an element is taken out of a slice. -/
import Derived.Test.YtfkjpjkkjlipiaaDoorB4
import Derived.Test.YtfkjpjkkjlipiaaDoorB5
import Derived.KernelRfl
section
namespace Go.Ab
variable {P : Program} {K : FuncId → List Value → Option Ans} {G : Bg} {h : AH} {L L' M : List HP}
/-- the last elements are no more told of -/
theorem slc_shrink {W n m c : Nat} {e : TypeId} {a : Option Addr} {cs zs : List Value} (hm : m ≤ n) (h0 : 0 < n) (hl : cs.length = m * W) (hs : Hs G h (slc W e a c (n, cs ++ zs) :: L)) : Hs G h (slc W e a c (m, cs) :: L) := by
  obtain ⟨r, r2, ⟨hl2, hc, hr⟩, hr2, hd, hi, hi2⟩ := hs.fst
  simp only at hl2 hc
  have hcd : cs.all cellB = true := by rw [List.all_append, Bool.and_eq_true] at hc; exact hc.1
  rcases hr with ⟨hz, _⟩ | ⟨hz, _⟩ | ⟨hcap, b, pre, post, ex, rfl, hle, hrr⟩
  · simp only at hz; omega
  · simp only at hz; omega
  · simp only at hcap hle hrr
    subst hrr
    refine slc_put (r := blkR b (pre ++ (cs ++ zs) ++ post) (some (.mt e ex (pre ++ (cs ++ zs) ++ post).length))) ⟨hs.base, hs.old, hs.wf, hs.fr, _, ⟨_, r2, rfl, hr2, hd, rfl⟩, (Res.in_add hd).2 ⟨hi, hi2⟩⟩ ?_
    have e1 : pre ++ (cs ++ zs) ++ post = pre ++ cs ++ (zs ++ post) := by simp
    refine ⟨hl, hcd, .inr (.inr ⟨by simp only; omega, b, pre, zs ++ post, ex, rfl, ?_, by rw [e1]⟩)⟩
    rw [← e1]; exact hle
theorem seg_load {b o j m : Nat} {c : List Value} (hs : Hs G h (seg b o c :: L)) (h0 : 0 < c.length) (hm : j + m ≤ c.length) : loadCellsAt h ⟨b, o + j, none⟩ m = some ((c.drop j).take m) := by
  obtain ⟨hb, c', e', x', hg, hle, hall⟩ := hs.cells h0
  simp only [loadCellsAt, Option.isSome_none, Bool.false_eq_true, if_false, hg]
  rw [if_pos (by omega)]
  congr 1
  refine List.ext_getElem? fun k => ?_
  rw [List.getElem?_take, List.getElem?_take]
  split
  · rw [List.getElem?_drop, List.getElem?_drop, Nat.add_assoc, hall (j + k) (by omega)]
  · rfl
theorem splice_last {A B z : List Value} {j : Nat} (h1 : A.length = j) (h2 : B.length = z.length) : splice (A ++ B) j z = A ++ z := by
  subst h1
  unfold splice
  rw [List.take_left, List.drop_eq_nil_of_le (by rw [List.length_append]; omega), List.append_nil]
theorem take_take_drop {α : Type} (l : List α) (i : Nat) : l.take i ++ l.drop i = l := List.take_append_drop i l
/-- what is behind an element goes one back: append(s[:i], s[i+1:]...), and the last one is cleared -/
theorem r_del {W bytes n i c : Nat} {e : TypeId} {a : Option Addr} {cs z : List Value} {k : Value → AH → Prop} (hW : 0 < W) (hz : z.length = W) (hzc : z.all cellB = true) (hi : i < n) (hs : Hs G h L) [m : Has (slc W e a c) L (n, cs) L']
    (hk : ∀ h', Hs G h' (slc W e a c (n - 1, cs.take (i * W) ++ cs.drop ((i + 1) * W)) :: L') → k (.slice a (n - 1) c) h') :
    thn (slS W h (.slice a n c) none (some (I i)) none) fun v3 => thn (slS W h (.slice a n c) (some (I ((i : Int) + 1))) none none) fun v4 =>
      thn (appV W bytes e h v3 v4) fun r5 => thn (lenS r5.1) fun v8 => thn (slS W r5.2 r5.1 (some v8) (some (I n)) none) fun v9 => thn (clearV z r5.2 v9) fun r10 => k r5.1 r10.2 := by
  have hs := m.of hs
  have hl := hs.slcLen
  have hc := hs.slcCells
  simp only at hl hc
  have hcap : n ≤ c := by
    obtain ⟨r, r2, ⟨_, _, hr⟩, _⟩ := hs.fst
    rcases hr with ⟨hz, _⟩ | ⟨hz, _⟩ | ⟨hcap, _⟩
    · simp only at hz; omega
    · simp only at hz; omega
    · exact hcap
  obtain ⟨b, o, rfl, H, hs2, close⟩ := hs.slcOpen (by omega)
  have hpos : 0 < n * W := Nat.mul_pos (by omega) hW
  have hcl : 0 < cs.length := by omega
  have b1 : bnd none c c = some c := rfl
  have b2 : bnd (some (I i)) n c = some i := by simp only [bnd]; rw [if_pos (by omega)]; simp
  have b3 : bnd none 0 i = some 0 := rfl
  have b4 : bnd none n c = some n := rfl
  have b5 : bnd (some (I ((i : Int) + 1))) 0 n = some (i + 1) := by simp only [bnd]; rw [if_pos (by omega)]; congr 1
  have b6 : bnd (some (I ((n - 1 : Nat) : Int))) 0 n = some (n - 1) := by simp only [bnd]; rw [if_pos (by omega)]; simp
  have b7 : bnd (some (I n)) n c = some n := by simp only [bnd]; rw [if_pos (by omega)]; simp
  have hne0 : ¬ c = 0 := by omega
  refine ⟨.slice (some ⟨b, o, none⟩) i c, ?_, ?_⟩
  · simp only [slS, b1, b2, b3, Option.isNone_some, Bool.false_and, Option.isSome_none, Bool.false_eq_true, if_false, hne0, add_none]
    rw [if_pos (by omega)]
    simp
  have mulS : (i + 1) * W = i * W + W := by rw [Nat.add_mul, Nat.one_mul]
  have hiW : (i + 1) * W ≤ n * W := Nat.mul_le_mul_right W hi
  have hrest : (n - (i + 1)) * W = n * W - (i + 1) * W := Nat.sub_mul _ _ _
  have hnW : (n - 1) * W = n * W - W := by rw [Nat.sub_mul, Nat.one_mul]
  -- behind the append
  have fin : ∀ h1, Hs G h1 (seg b o (cs.take (i * W) ++ cs.drop ((i + 1) * W) ++ cs.drop ((n - 1) * W)) :: H :: L') →
      thn (lenS (.slice (some ⟨b, o, none⟩) (n - 1) c)) fun v8 => thn (slS W h1 (.slice (some ⟨b, o, none⟩) (n - 1) c) (some v8) (some (I n)) none) fun v9 => thn (clearV z h1 v9) fun r10 => k (.slice (some ⟨b, o, none⟩) (n - 1) c) r10.2 := by
    intro h1 hs3
    refine r_lenS ?_
    have hlast : ¬ c = n - 1 := by omega
    refine ⟨.slice (some ⟨b, o + (n - 1) * W, none⟩) (n - (n - 1)) (c - (n - 1)), ?_, ?_⟩
    · have b7' : bnd (some (I n)) (n - 1) c = some n := b7
      simp only [slS, b1, b7', b6, Option.isNone_some, Bool.false_and, Option.isSome_none, Bool.false_eq_true, if_false, hlast, add_none]
      rw [if_pos (by omega)]
    have h1n : n - (n - 1) = 1 := by omega
    rw [h1n]
    have hlen : (cs.take (i * W) ++ cs.drop ((i + 1) * W)).length = (n - 1) * W := by
      rw [List.length_append, List.length_take, List.length_drop]; omega
    have hz1 : zerosA z 1 = z := by simp [zerosA]
    have hall : (cs.take (i * W) ++ cs.drop ((i + 1) * W)).all cellB = true := by
      rw [List.all_append, Bool.and_eq_true]
      exact ⟨List.all_eq_true.2 fun v hv => List.all_eq_true.1 hc v (List.mem_of_mem_take hv), List.all_eq_true.2 fun v hv => List.all_eq_true.1 hc v (List.mem_of_mem_drop hv)⟩
    obtain ⟨h2, hst, hs4⟩ := hs3.write (j := (n - 1) * W) (vs := z) (by rw [List.length_append, hlen, List.length_drop]; omega) hzc (by rw [List.length_append, hlen, List.length_drop]; omega)
    refine ⟨(.tuple #[], h2), ?_, ?_⟩
    · simp only [clearV, Nat.one_ne_zero, if_false, hz1, hst, Option.map_some]
    refine hk h2 ?_
    have hsp : splice (cs.take (i * W) ++ cs.drop ((i + 1) * W) ++ cs.drop ((n - 1) * W)) ((n - 1) * W) z = cs.take (i * W) ++ cs.drop ((i + 1) * W) ++ z := splice_last hlen (by rw [List.length_drop]; omega)
    rw [hsp] at hs4
    refine slc_shrink (n := n) (zs := z) (by omega) (by omega) hlen (close h2 _ _ ?_ ?_ hs4)
    · rw [List.length_append, hlen]; omega
    · rw [List.all_append, hall, hzc]; rfl
  by_cases hlst : i + 1 = n
  · -- the last one
    have hd0 : cs.drop ((i + 1) * W) = [] := List.drop_eq_nil_of_le (by rw [hlst]; omega)
    have key : ∀ v4 : Value, lenOfV v4 = some 0 → srcCells h W 0 v4 = some [] → thn (appV W bytes e h (.slice (some ⟨b, o, none⟩) i c) v4) fun r5 => thn (lenS r5.1) fun v8 => thn (slS W r5.2 r5.1 (some v8) (some (I n)) none) fun v9 => thn (clearV z r5.2 v9) fun r10 => k r5.1 r10.2 := by
      intro v4 h1 h2
      refine ⟨(.slice (some ⟨b, o, none⟩) i c, h), ?_, ?_⟩
      · simp only [appV, h1, h2, List.all_nil, Bool.not_true, List.length_nil, Nat.zero_mul, bne_self_eq_false, Bool.or_self, Bool.false_eq_true, if_false, Nat.add_zero]
        rw [if_pos (by omega), if_pos trivial]
      · have hin : i = n - 1 := by omega
        have := fin h (by
          rw [hd0, List.append_nil, hin, take_take_drop]; exact hs2)
        rw [hin]; exact this
    by_cases hci : c = i + 1
    · obtain ⟨hb, c', e', x', hg, hle, hall⟩ := hs2.cells hcl
      have hex : exactAt h b = some x' := by simp only [exactAt, hg]
      cases x' with
      | true =>
        refine ⟨empty0, ?_, key _ rfl rfl⟩
        simp only [slS, b1, b4, b5, Option.isNone_none, Option.isSome_none, Bool.and_false, Bool.false_eq_true, if_false, add_none, hex]
        rw [if_pos hcap, if_pos hci]
      | false =>
        refine ⟨dangling ⟨b, o + (i + 1) * W, none⟩, ?_, key _ rfl rfl⟩
        simp only [slS, b1, b4, b5, Option.isNone_none, Option.isSome_none, Bool.and_false, Bool.false_eq_true, if_false, add_none, hex]
        rw [if_pos hcap, if_pos hci]
    · refine ⟨.slice (some ⟨b, o + (i + 1) * W, none⟩) (n - (i + 1)) (c - (i + 1)), ?_, ?_⟩
      · simp only [slS, b1, b4, b5, Option.isNone_none, Option.isSome_none, Bool.and_false, Bool.false_eq_true, if_false, add_none, hci]
        rw [if_pos hcap]
      · have : n - (i + 1) = 0 := by omega
        rw [this]
        exact key _ rfl (by simp [srcCells])
  · have hci : ¬ c = i + 1 := by omega
    refine ⟨.slice (some ⟨b, o + (i + 1) * W, none⟩) (n - (i + 1)) (c - (i + 1)), ?_, ?_⟩
    · simp only [slS, b1, b4, b5, Option.isNone_none, Option.isSome_none, Bool.and_false, Bool.false_eq_true, if_false, add_none, hci]
      rw [if_pos hcap]
    have hn1 : ¬ n - (i + 1) = 0 := by omega
    have hld : loadCellsAt h ⟨b, o + (i + 1) * W, none⟩ ((n - (i + 1)) * W) = some (cs.drop ((i + 1) * W)) := by
      rw [seg_load hs2 hcl (by omega), List.take_of_length_le (by rw [List.length_drop]; omega)]
    have hdl : (cs.drop ((i + 1) * W)).length = (n - (i + 1)) * W := by rw [List.length_drop]; omega
    have hdc : (cs.drop ((i + 1) * W)).all cellB = true := List.all_eq_true.2 fun v hv => List.all_eq_true.1 hc v (List.mem_of_mem_drop hv)
    obtain ⟨h1, hst, hs3⟩ := hs2.write (j := i * W) (vs := cs.drop ((i + 1) * W)) (by omega) hdc hcl
    have hsum : i + (n - (i + 1)) = n - 1 := by omega
    refine ⟨(.slice (some ⟨b, o, none⟩) (n - 1) c, h1), ?_, ?_⟩
    · simp only [appV, lenOfV, srcCells, if_neg hn1, Nat.le_refl, if_true, hld, hdc, hdl, Bool.not_true, bne_self_eq_false, Bool.or_self, Bool.false_eq_true, if_false, add_none, hst, Option.map_some, Option.isSome_none, hsum]
      rw [if_pos (by omega)]
    refine fin h1 ?_
    have hsp : splice cs (i * W) (cs.drop ((i + 1) * W)) = cs.take (i * W) ++ cs.drop ((i + 1) * W) ++ cs.drop ((n - 1) * W) := by
      unfold splice
      congr 2
      rw [hdl]; omega
    rw [← hsp]; exact hs3
end Go.Ab
end
section
namespace Go.Proofs.YtfkjpjkkjlipiaaDoor
open Go Go.Ab
set_option maxRecDepth 100000
/-! ### 3 donjon/donjonlaw13.CacheProbes: params 3, captured 0, results [tmp 6] -/
noncomputable def L3 : List (Option Nat × List Nat) := [(some 0, [0, 1, 2]), (some 3, [1, 3, 5]), (some 6, [1, 3, 5, 7]), (some 7, [1, 3, 5, 7, 9]), (some 9, [1, 3, 5, 7, 9]), (some 10, [5, 7]), (some 13, [5, 7, 10]), (some 15, [5, 7, 10, 11]), (some 16, [5, 7, 10, 11]), (some 20, [5, 7, 10, 11, 12]), (some 21, [5, 7, 10, 11, 12, 16]), (some 23, [5, 7, 10, 11, 12, 16]), (some 31, [7, 10]), (some 27, [5, 7, 10, 11, 12, 16, 17, 18, 19, 20]), (some 29, [5, 7, 10, 11, 12, 16, 17, 18, 19]), (some 22, [5, 7, 10, 11, 12, 16])]
noncomputable def A3_0 (Q : Value → AH → Prop) (t0 t1 t2 : Value) (h : AH) : Prop := Pt Pr K 3 none (retV Pr 3 Q) 268 [0, 1, 2] [.code (cc 3 2), .code (cc 3 3)] [] [t0, t1, t2] h
noncomputable def A3_1 (Q : Value → AH → Prop) (t1 t3 t5 : Value) (h : AH) : Prop := Pt Pr K 3 none (retV Pr 3 Q) 268 [1, 3, 5] [.code (cc 3 14), .code (cc 3 15)] [] [t1, t3, t5] h
noncomputable def A3_2 (Q : Value → AH → Prop) (t1 t3 t5 t7 : Value) (h : AH) : Prop := Pt Pr K 3 none (retV Pr 3 Q) 268 [1, 3, 5, 7] [.code (cc 3 124), .code (cc 3 125), .code (cc 3 63)] [] [t1, t3, t5, t7] h
noncomputable def A3_3 (Q : Value → AH → Prop) (t1 t3 t5 t7 t9 : Value) (h : AH) : Prop := Pt Pr K 3 none (retV Pr 3 Q) 268 [1, 3, 5, 7, 9] [.code (cc 3 2000), .code (cc 3 2001), .code (cc 3 1001), .inLoop (cc 3 500), .inBlock 0, .code (cc 3 63)] [] [t1, t3, t5, t7, t9] h
noncomputable def A3_4 (Q : Value → AH → Prop) (t1 t3 t5 t7 t9 : Value) (h : AH) : Prop := Pt Pr K 3 none (retV Pr 3 Q) 268 [1, 3, 5, 7, 9] [.code (cc 3 4004), .inBlock 1, .code (cc 3 2003), .inLoop (cc 3 500), .inBlock 0, .code (cc 3 63)] [] [t1, t3, t5, t7, t9] h
noncomputable def A3_5 (Q : Value → AH → Prop) (t5 t7 : Value) (h : AH) : Prop := Pt Pr K 3 none (retV Pr 3 Q) 268 [5, 7] [.code (cc 3 126), .code (cc 3 127)] [] [t5, t7] h
noncomputable def A3_6 (Q : Value → AH → Prop) (t5 t7 t10 : Value) (h : AH) : Prop := Pt Pr K 3 none (retV Pr 3 Q) 268 [5, 7, 10] [.code (cc 3 510), .code (cc 3 511)] [] [t5, t7, t10] h
noncomputable def A3_7 (Q : Value → AH → Prop) (t5 t7 t10 t11 : Value) (h : AH) : Prop := Pt Pr K 3 none (retV Pr 3 Q) 268 [5, 7, 10, 11] [.code (cc 3 4090), .code (cc 3 1023)] [] [t5, t7, t10, t11] h
noncomputable def A3_8 (Q : Value → AH → Prop) (t5 t7 t10 t11 : Value) (h : AH) : Prop := Pt Pr K 3 none (retV Pr 3 Q) 268 [5, 7, 10, 11] [.code (cc 3 2046), .code (cc 3 2047)] [] [t5, t7, t10, t11] h
noncomputable def A3_9 (Q : Value → AH → Prop) (t5 t7 t10 t11 t12 : Value) (h : AH) : Prop := Pt Pr K 3 none (retV Pr 3 Q) 268 [5, 7, 10, 11, 12] [.code (cc 3 32764), .code (cc 3 32765), .code (cc 3 16383)] [] [t5, t7, t10, t11, t12] h
noncomputable def A3_10 (Q : Value → AH → Prop) (t5 t7 t10 t11 t12 t16 : Value) (h : AH) : Prop := Pt Pr K 3 none (retV Pr 3 Q) 268 [5, 7, 10, 11, 12, 16] [.code (cc 3 524240), .code (cc 3 524241), .code (cc 3 262121), .inLoop (cc 3 131060), .inBlock 2, .code (cc 3 16383)] [] [t5, t7, t10, t11, t12, t16] h
noncomputable def A3_11 (Q : Value → AH → Prop) (t5 t7 t10 t11 t12 t16 : Value) (h : AH) : Prop := Pt Pr K 3 none (retV Pr 3 Q) 268 [5, 7, 10, 11, 12, 16] [.code (cc 3 2096968), .code (cc 3 2096969), .inBlock 3, .code (cc 3 524243), .inLoop (cc 3 131060), .inBlock 2, .code (cc 3 16383)] [] [t5, t7, t10, t11, t12, t16] h
noncomputable def A3_12 (Q : Value → AH → Prop) (t7 t10 : Value) (h : AH) : Prop := Pt Pr K 3 none (retV Pr 3 Q) 268 [7, 10] [.code (cc 3 32766), .code (cc 3 32767)] [] [t7, t10] h
noncomputable def A3_13 (Q : Value → AH → Prop) (t5 t7 t10 t11 t12 t16 t17 t18 t19 t20 : Value) (h : AH) : Prop := Pt Pr K 3 none (retV Pr 3 Q) 268 [5, 7, 10, 11, 12, 16, 17, 18, 19, 20] [.code (cc 3 33551516), .code (cc 3 33551517), .code (cc 3 16775759), .inBlock 3, .code (cc 3 524243), .inLoop (cc 3 131060), .inBlock 2, .code (cc 3 16383)] [] [t5, t7, t10, t11, t12, t16, t17, t18, t19, t20] h
noncomputable def A3_14 (Q : Value → AH → Prop) (t5 t7 t10 t11 t12 t16 t17 t18 t19 : Value) (h : AH) : Prop := Pt Pr K 3 none (retV Pr 3 Q) 268 [5, 7, 10, 11, 12, 16, 17, 18, 19] [.code (cc 3 33551518), .code (cc 3 33551519), .inBlock 3, .code (cc 3 524243), .inLoop (cc 3 131060), .inBlock 2, .code (cc 3 16383)] [] [t5, t7, t10, t11, t12, t16, t17, t18, t19] h
noncomputable def A3_15 (Q : Value → AH → Prop) (t5 t7 t10 t11 t12 t16 : Value) (h : AH) : Prop := Pt Pr K 3 none (retV Pr 3 Q) 268 [5, 7, 10, 11, 12, 16] [.code (cc 3 524243), .inLoop (cc 3 131060), .inBlock 2, .code (cc 3 16383)] [] [t5, t7, t10, t11, t12, t16] h
theorem b3_0 {h : AH} {Q : Value → AH → Prop} {t0 t1 t2 : Value} (H :
 thn (blkOf 22 t0) fun b1 =>
 alc h b1 fun p2 h0 =>
 thn (blkOf 28 t2) fun b4 =>
 alc h0 b4 fun p5 h3 =>
 Cl Pr K 8 [t1] h3 fun v6 h6 => -- donjon/donjonlaw13.right
 thn (unV .not v6) fun v7 =>
 Br v7 (
 Cl Pr K 9 [] h6 fun v8 h8 => -- donjon/donjonlaw13.awake
 Q v8 h8) (
 thn (idxA 2 1 (pt p2 0 0) (I 0)) fun v8 =>
 thn (ld1 h6 v8) fun v9 =>
 thn (biI .lss v9 (I 1)) fun v10 =>
 Br v10 (
 Cl Pr K 9 [] h6 fun v11 h11 => -- donjon/donjonlaw13.awake
 Q v11 h11) (
 thn (idxA 2 1 (pt p2 0 0) (I 0)) fun v11 =>
 thn (ld1 h6 v11) fun v12 =>
 thn (biI .gtr v12 (I 2)) fun v13 =>
 Br v13 (
 Cl Pr K 9 [] h6 fun v14 h14 => -- donjon/donjonlaw13.awake
 Q v14 h14) (
 thn (idxA 2 1 (pt p2 0 0) (I 1)) fun v14 =>
 thn (ld1 h6 v14) fun v15 =>
 thn (biI .lss v15 (I 1)) fun v16 =>
 Br v16 (
 Cl Pr K 9 [] h6 fun v17 h17 => -- donjon/donjonlaw13.awake
 Q v17 h17) (
 thn (idxA 2 1 (pt p2 0 0) (I 1)) fun v17 =>
 thn (ld1 h6 v17) fun v18 =>
 thn (biI .gtr v18 (I 2)) fun v19 =>
 Br v19 (
 Cl Pr K 9 [] h6 fun v20 h20 => -- donjon/donjonlaw13.awake
 Q v20 h20) (
 thn (padd 1 (pt p5 0 0)) fun v20 =>
 thn (ld1 h6 v20) fun v21 =>
 thn (biI .lss v21 (I 0)) fun v22 =>
 Br v22 (
 Cl Pr K 9 [] h6 fun v23 h23 => -- donjon/donjonlaw13.awake
 Q v23 h23) (
 thn (padd 1 (pt p5 0 0)) fun v23 =>
 thn (ld1 h6 v23) fun v24 =>
 thn (biI .gtr v24 (I 3)) fun v25 =>
 Br v25 (
 Cl Pr K 9 [] h6 fun v26 h26 => -- donjon/donjonlaw13.awake
 Q v26 h26) (
 A3_1 Q t1 (pt p2 0 0) (pt p5 0 0) h6)))))))
) : A3_0 Q t0 t1 t2 h := by intro e he; cases he; exact bF L3 (by kernel_rfl) H
theorem b3_1 {h : AH} {Q : Value → AH → Prop} {t1 t3 t5 : Value} (H :
 thn (idxA 2 1 t3 (I 0)) fun v0 =>
 thn (ld1 h v0) fun v1 =>
 thn (idxA 2 1 t3 (I 1)) fun v2 =>
 thn (ld1 h v2) fun v3 =>
 Cl Pr K 11 [v1, v3] h fun v4 h4 => -- donjon/donjonlaw13.small
 Cl Pr K 10 [v4, (I 0)] h4 fun v5 h5 => -- donjon/cache.New
 thn (extV 0 v5) fun v6 =>
 thn (extV 1 v5) fun v7 =>
 thn (biP .eql v6 (.pointer none)) fun v8 =>
 Br v8 (
 Q (.bool false) h5) (
 thn (biI .neq v7 (I 0)) fun v9 =>
 Br v9 (
 Q (.bool false) h5) (
 A3_2 Q t1 t3 t5 v6 h5))
) : A3_1 Q t1 t3 t5 h := by intro e he; cases he; exact bF L3 (by kernel_rfl) H
theorem b3_2 {h : AH} {Q : Value → AH → Prop} {t1 t3 t5 t7 : Value} (H :
 A3_3 Q t1 t3 t5 t7 (I 0) h
) : A3_2 Q t1 t3 t5 t7 h := by intro e he; cases he; exact bF L3 (by kernel_rfl) H
theorem b3_3 {h : AH} {Q : Value → AH → Prop} {t1 t3 t5 t7 t9 : Value} (H :
 thn (lenS t1) fun v0 =>
 thn (biI .lss t9 v0) fun v1 =>
 Br v1 (
 A3_4 Q t1 t3 t5 t7 t9 h) (
 A3_5 Q t5 t7 h)
) : A3_3 Q t1 t3 t5 t7 t9 h := by intro e he; cases he; exact bF L3 (by kernel_rfl) H
theorem b3_4 {h : AH} {Q : Value → AH → Prop} {t1 t3 t5 t7 t9 : Value} (H :
 resv h 11 fun r1 h0 =>
 thn (idxA 2 1 t3 (I 0)) fun v2 =>
 thn (ld1 h0 v2) fun v3 =>
 thn (idxA 2 1 t3 (I 1)) fun v4 =>
 thn (ld1 h0 v4) fun v5 =>
 Cl Pr K 13 [(I 0), (I 4), v3, v5] h0 fun v6 h6 => -- donjon/donjonref13.New
 thn (idxS 15 t1 t9) fun v7 =>
 thn (ldN h6 15 v7) fun v8 =>
 Cl Pr K 12 [t7, v6, v8] h6 fun v9 h9 => -- donjon/donjonlaw13.does
(veq t7 t7 = true) ∧ (
(veq t1 t1 = true) ∧ (
(veq t9 t9 = true) ∧ (
(thn (idxS 15 t1 t9) fun v10 =>
 veq v10 v7 = true) ∧ (
(thn (ldN h0 15 v7) fun v11 =>
 veq v11 v8 = true) ∧ (
 thn (biI .add t9 (I 1)) fun v12 =>
 A3_3 Q t1 t3 t5 t7 v12 h9)))))
) : A3_4 Q t1 t3 t5 t7 t9 h := by intro e he; cases he; exact bF L3 (by kernel_rfl) H
theorem b3_5 {h : AH} {Q : Value → AH → Prop} {t5 t7 : Value} (H :
 Cl Pr K 14 [t7] h fun v0 h0 => -- (*donjon/cache.Cache).Twin
 thn (biP .eql v0 (.pointer none)) fun v1 =>
 Br v1 (
 Q (.bool false) h0) (
 A3_6 Q t5 t7 v0 h0)
) : A3_5 Q t5 t7 h := by intro e he; cases he; exact bF L3 (by kernel_rfl) H
theorem b3_6 {h : AH} {Q : Value → AH → Prop} {t5 t7 t10 : Value} (H :
 thn (padd 1 t5) fun v0 =>
 thn (ld1 h v0) fun v1 =>
 thn (fillL [(I 0), (I 0), (I 0), (I 0), (I 0), (I 0), (I 0), (.bool false), (I 0)] [(0, 1, (I 11)), (2, 1, v1), (4, 1, (I 0))]) fun c2 =>
 alc h (.cells [(I 0), (I 0), (I 0), (I 0), (I 0), (I 0), (I 0), (.bool false), (I 0)] 26 (0, 0) true) fun p4 h3 =>
 thn (stV h3 9 (pt p4 0 0) (.agg ⟨c2⟩)) fun h5 =>
 thn (padd 5 t5) fun v6 =>
 thn (ld1 h5 v6) fun v7 =>
 Br v7 (
 A3_7 Q t5 t7 t10 (pt p4 0 0) h5) (
 A3_8 Q t5 t7 t10 (pt p4 0 0) h5)
) : A3_6 Q t5 t7 t10 h := by intro e he; cases he; exact bF L3 (by kernel_rfl) H
theorem b3_7 {h : AH} {Q : Value → AH → Prop} {t5 t7 t10 t11 : Value} (H :
 thn (padd 4 t11) fun v0 =>
 thn (stV h 1 v0 (I 1)) fun h1 =>
 thn (ldN h1 9 t11) fun v2 =>
 Cl Pr K 15 [t7, v2] h1 fun v3 h3 => -- (*donjon/cache.Cache).Take
 thn (extV 0 v3) fun v4 =>
 thn (extV 1 v3) fun v5 =>
 thn (ldN h3 9 t11) fun v6 =>
 Cl Pr K 15 [t7, v6] h3 fun v7 h7 => -- (*donjon/cache.Cache).Take
 thn (extV 0 v7) fun v8 =>
 thn (extV 1 v7) fun v9 =>
 resv h7 40 fun r11 h10 =>
 thn (biI .neq v5 (I 0)) fun v12 =>
 Br v12 (
 Q (.bool false) h10) (
 thn (biI .neq v9 (I 0)) fun v13 =>
 Br v13 (
 Q (.bool false) h10) (
 thn (lenS v4) fun v14 =>
 thn (biI .neq v14 (I 1)) fun v15 =>
 Br v15 (
 Q (.bool false) h10) (
 thn (lenS v8) fun v16 =>
 thn (biI .neq v16 (I 1)) fun v17 =>
 Br v17 (
 Q (.bool false) h10) (
 thn (idxS 9 v4 (I 0)) fun v18 =>
 thn (padd 4 v18) fun v19 =>
 thn (ld1 h10 v19) fun v20 =>
 thn (idxS 9 v8 (I 0)) fun v21 =>
 thn (padd 4 v21) fun v22 =>
 thn (ld1 h10 v22) fun v23 =>
 thn (biI .neq v20 v23) fun v24 =>
 Br v24 (
 Q (.bool false) h10) (
 thn (idxS 9 v8 (I 0)) fun v25 =>
 thn (padd 7 v25) fun v26 =>
 thn (ld1 h10 v26) fun v27 =>
 Br v27 (
 thn (idxS 9 v4 (I 0)) fun v28 =>
 thn (padd 7 v28) fun v29 =>
 thn (ld1 h10 v29) fun v30 =>
 thn (unV .not v30) fun v31 =>
 Br v31 (
 Q (.bool false) h10) (
 A3_9 Q t5 t7 t10 t11 v4 h10)) (
 A3_10 Q t5 t7 t10 t11 v4 (I 0) h10))))))
) : A3_7 Q t5 t7 t10 t11 h := by intro e he; cases he; exact bF L3 (by kernel_rfl) H
theorem b3_8 {h : AH} {Q : Value → AH → Prop} {t5 t7 t10 t11 : Value} (H :
 thn (ldN h 9 t11) fun v0 =>
 Cl Pr K 15 [t7, v0] h fun v1 h1 => -- (*donjon/cache.Cache).Take
 thn (extV 0 v1) fun v2 =>
 thn (extV 1 v1) fun v3 =>
 thn (ldN h1 9 t11) fun v4 =>
 Cl Pr K 15 [t7, v4] h1 fun v5 h5 => -- (*donjon/cache.Cache).Take
 thn (extV 0 v5) fun v6 =>
 thn (extV 1 v5) fun v7 =>
 resv h5 40 fun r9 h8 =>
 thn (biI .neq v3 (I 0)) fun v10 =>
 Br v10 (
 Q (.bool false) h8) (
 thn (biI .neq v7 (I 0)) fun v11 =>
 Br v11 (
 Q (.bool false) h8) (
 thn (lenS v2) fun v12 =>
 thn (biI .neq v12 (I 1)) fun v13 =>
 Br v13 (
 Q (.bool false) h8) (
 thn (lenS v6) fun v14 =>
 thn (biI .neq v14 (I 1)) fun v15 =>
 Br v15 (
 Q (.bool false) h8) (
 thn (idxS 9 v2 (I 0)) fun v16 =>
 thn (padd 4 v16) fun v17 =>
 thn (ld1 h8 v17) fun v18 =>
 thn (idxS 9 v6 (I 0)) fun v19 =>
 thn (padd 4 v19) fun v20 =>
 thn (ld1 h8 v20) fun v21 =>
 thn (biI .neq v18 v21) fun v22 =>
 Br v22 (
 Q (.bool false) h8) (
 thn (idxS 9 v6 (I 0)) fun v23 =>
 thn (padd 7 v23) fun v24 =>
 thn (ld1 h8 v24) fun v25 =>
 Br v25 (
 thn (idxS 9 v2 (I 0)) fun v26 =>
 thn (padd 7 v26) fun v27 =>
 thn (ld1 h8 v27) fun v28 =>
 thn (unV .not v28) fun v29 =>
 Br v29 (
 Q (.bool false) h8) (
 A3_9 Q t5 t7 t10 t11 v2 h8)) (
 A3_10 Q t5 t7 t10 t11 v2 (I 0) h8))))))
) : A3_8 Q t5 t7 t10 t11 h := by intro e he; cases he; exact bF L3 (by kernel_rfl) H
theorem b3_9 {h : AH} {Q : Value → AH → Prop} {t5 t7 t10 t11 t12 : Value} (H :
 A3_10 Q t5 t7 t10 t11 t12 (I 0) h
) : A3_9 Q t5 t7 t10 t11 t12 h := by intro e he; cases he; exact bF L3 (by kernel_rfl) H
theorem b3_10 {h : AH} {Q : Value → AH → Prop} {t5 t7 t10 t11 t12 t16 : Value} (H :
 thn (biI .lss t16 (I 4)) fun v0 =>
 Br v0 (
 A3_11 Q t5 t7 t10 t11 t12 t16 h) (
 A3_12 Q t7 t10 h)
) : A3_10 Q t5 t7 t10 t11 t12 t16 h := by intro e he; cases he; exact bF L3 (by kernel_rfl) H
theorem b3_11 {h : AH} {Q : Value → AH → Prop} {t5 t7 t10 t11 t12 t16 : Value} (H :
 thn (nilV t7) fun v0 =>
 thn (padd 0 v0) fun v1 =>
 thn (ld1 h v1) fun v2 =>
 Cl Pr K 16 [v2, t16] h fun v3 h3 => -- (*donjon/tags.Cache[donjon/cache.Copy]).Peek
 thn (extV 0 v3) fun v4 =>
 thn (extV 1 v3) fun v5 =>
 alc h3 (.cells [(I 0), (I 0), (I 0), (I 0)] 46 (0, 0) true) fun p7 h6 =>
 thn (stV h6 4 (pt p7 0 0) v4) fun h8 =>
 thn (nilV t10) fun v9 =>
 thn (padd 0 v9) fun v10 =>
 thn (ld1 h8 v10) fun v11 =>
 Cl Pr K 16 [v11, t16] h8 fun v12 h12 => -- (*donjon/tags.Cache[donjon/cache.Copy]).Peek
 thn (extV 0 v12) fun v13 =>
 thn (extV 1 v12) fun v14 =>
 alc h12 (.cells [(I 0), (I 0), (I 0), (I 0)] 46 (0, 0) true) fun p16 h15 =>
 thn (stV h15 4 (pt p16 0 0) v13) fun h17 =>
 thn (padd 1 t5) fun v18 =>
 thn (ld1 h17 v18) fun v19 =>
 thn (biI .neq t16 v19) fun v20 =>
 Br v20 (
 thn (ldN h17 4 (pt p7 0 0)) fun v21 =>
 thn (ldN h17 4 (pt p16 0 0)) fun v22 =>
 thn (biA [0, 0, 0, 0] .neq v21 v22) fun v23 =>
 Br v23 (
 Q (.bool false) h17) (
 thn (biI .neq v5 v14) fun v24 =>
 Br v24 (
 Q (.bool false) h17) (
 A3_13 Q t5 t7 t10 t11 t12 t16 (pt p7 0 0) v5 (pt p16 0 0) v14 h17))) (
 thn (padd 1 t5) fun v21 =>
 thn (ld1 h17 v21) fun v22 =>
 thn (biI .eql t16 v22) fun v23 =>
 Br v23 (
 thn (biI .eql v5 (I 0)) fun v24 =>
 thn (biI .eql v14 (I 0)) fun v25 =>
 Br v25 (
 thn (padd 4 t11) fun v26 =>
 thn (ld1 h17 v26) fun v27 =>
 thn (biI .eql v27 (I 1)) fun v28 =>
 thn (biB .neq v24 v28) fun v29 =>
 Br v29 (
 Q (.bool false) h17) (
 A3_14 Q t5 t7 t10 t11 t12 t16 (pt p7 0 0) v5 (pt p16 0 0) h17)) (
 thn (biB .neq v24 (.bool false)) fun v26 =>
 Br v26 (
 Q (.bool false) h17) (
 A3_14 Q t5 t7 t10 t11 t12 t16 (pt p7 0 0) v5 (pt p16 0 0) h17))) (
 resv h17 38 fun r25 h24 =>
 thn (padd 1 t5) fun v26 =>
 thn (ld1 h24 v26) fun v27 =>
 thn (biI .eql t16 v27) fun v28 =>
 Br v28 (
 thn (biI .eql v5 (I 0)) fun v29 =>
 Br v29 (
 thn (padd 2 (pt p7 0 0)) fun v30 =>
 thn (ldN h24 2 v30) fun v31 =>
 thn (padd 2 (pt p16 0 0)) fun v32 =>
 thn (ldN h24 2 v32) fun v33 =>
 thn (biA [0, 0] .neq v31 v33) fun v34 =>
 Br v34 (
 Q (.bool false) h24) (
 thn (padd 1 (pt p7 0 0)) fun v35 =>
 thn (ld1 h24 v35) fun v36 =>
 thn (padd 1 (pt p16 0 0)) fun v37 =>
 thn (ld1 h24 v37) fun v38 =>
 thn (biI .neq v36 v38) fun v39 =>
 Br v39 (
 Q (.bool false) h24) (
 thn (padd 0 (pt p7 0 0)) fun v40 =>
 thn (ld1 h24 v40) fun v41 =>
 thn (idxS 9 t12 (I 0)) fun v42 =>
 thn (padd 4 v42) fun v43 =>
 thn (ld1 h24 v43) fun v44 =>
 thn (biI .neq v41 v44) fun v45 =>
 Br v45 (
 Q (.bool false) h24) (
 thn (padd 1 (pt p7 0 0)) fun v46 =>
 thn (ld1 h24 v46) fun v47 =>
 Cl Pr K 17 [t7, t16, v47, (.bool true)] h24 fun v48 h48 => -- (*donjon/cache.Cache).May
 Br v48 (
 Q (.bool false) h48) (
 A3_15 Q t5 t7 t10 t11 t12 t16 h48))))) (
 thn (biI .add t16 (I 1)) fun v30 =>
 A3_10 Q t5 t7 t10 t11 t12 v30 h24)) (
 thn (biI .add t16 (I 1)) fun v29 =>
 A3_10 Q t5 t7 t10 t11 t12 v29 h24)))
) : A3_11 Q t5 t7 t10 t11 t12 t16 h := by intro e he; cases he; exact bF L3 (by kernel_rfl) H
theorem b3_12 {h : AH} {Q : Value → AH → Prop} {t7 t10 : Value} (H :
 Cl Pr K 18 [t7] h fun v0 h0 => -- (*donjon/cache.Cache).Asked
 thn (extV 0 v0) fun v1 =>
 thn (extV 1 v0) fun v2 =>
 thn (extV 2 v0) fun v3 =>
 Cl Pr K 18 [t10] h0 fun v4 h4 => -- (*donjon/cache.Cache).Asked
 thn (extV 0 v4) fun v5 =>
 thn (extV 1 v4) fun v6 =>
 thn (extV 2 v4) fun v7 =>
 thn (biI .eql v1 v5) fun v8 =>
 Br v8 (
 thn (biB .eql v3 v7) fun v9 =>
 Br v9 (
 Cl Pr K 9 [] h4 fun v10 h10 => -- donjon/donjonlaw13.awake
 Q v10 h10) (
 Q (.bool false) h4)) (
 Q (.bool false) h4)
) : A3_12 Q t7 t10 h := by intro e he; cases he; exact bF L3 (by kernel_rfl) H
theorem b3_13 {h : AH} {Q : Value → AH → Prop} {t5 t7 t10 t11 t12 t16 t17 t18 t19 t20 : Value} (H :
 thn (padd 1 t5) fun v0 =>
 thn (ld1 h v0) fun v1 =>
 thn (biI .eql t16 v1) fun v2 =>
 Br v2 (
 thn (biI .eql t18 (I 0)) fun v3 =>
 thn (biI .eql t20 (I 0)) fun v4 =>
 Br v4 (
 thn (padd 4 t11) fun v5 =>
 thn (ld1 h v5) fun v6 =>
 thn (biI .eql v6 (I 1)) fun v7 =>
 thn (biB .neq v3 v7) fun v8 =>
 Br v8 (
 Q (.bool false) h) (
 A3_14 Q t5 t7 t10 t11 t12 t16 t17 t18 t19 h)) (
 thn (biB .neq v3 (.bool false)) fun v5 =>
 Br v5 (
 Q (.bool false) h) (
 A3_14 Q t5 t7 t10 t11 t12 t16 t17 t18 t19 h))) (
 resv h 38 fun r4 h3 =>
 thn (padd 1 t5) fun v5 =>
 thn (ld1 h3 v5) fun v6 =>
 thn (biI .eql t16 v6) fun v7 =>
 Br v7 (
 thn (biI .eql t18 (I 0)) fun v8 =>
 Br v8 (
 thn (padd 2 t17) fun v9 =>
 thn (ldN h3 2 v9) fun v10 =>
 thn (padd 2 t19) fun v11 =>
 thn (ldN h3 2 v11) fun v12 =>
 thn (biA [0, 0] .neq v10 v12) fun v13 =>
 Br v13 (
 Q (.bool false) h3) (
 thn (padd 1 t17) fun v14 =>
 thn (ld1 h3 v14) fun v15 =>
 thn (padd 1 t19) fun v16 =>
 thn (ld1 h3 v16) fun v17 =>
 thn (biI .neq v15 v17) fun v18 =>
 Br v18 (
 Q (.bool false) h3) (
 thn (padd 0 t17) fun v19 =>
 thn (ld1 h3 v19) fun v20 =>
 thn (idxS 9 t12 (I 0)) fun v21 =>
 thn (padd 4 v21) fun v22 =>
 thn (ld1 h3 v22) fun v23 =>
 thn (biI .neq v20 v23) fun v24 =>
 Br v24 (
 Q (.bool false) h3) (
 thn (padd 1 t17) fun v25 =>
 thn (ld1 h3 v25) fun v26 =>
 Cl Pr K 17 [t7, t16, v26, (.bool true)] h3 fun v27 h27 => -- (*donjon/cache.Cache).May
 Br v27 (
 Q (.bool false) h27) (
 A3_15 Q t5 t7 t10 t11 t12 t16 h27))))) (
 thn (biI .add t16 (I 1)) fun v9 =>
 A3_10 Q t5 t7 t10 t11 t12 v9 h3)) (
 thn (biI .add t16 (I 1)) fun v8 =>
 A3_10 Q t5 t7 t10 t11 t12 v8 h3))
) : A3_13 Q t5 t7 t10 t11 t12 t16 t17 t18 t19 t20 h := by intro e he; cases he; exact bF L3 (by kernel_rfl) H
theorem b3_14 {h : AH} {Q : Value → AH → Prop} {t5 t7 t10 t11 t12 t16 t17 t18 t19 : Value} (H :
 resv h 38 fun r1 h0 =>
 thn (padd 1 t5) fun v2 =>
 thn (ld1 h0 v2) fun v3 =>
 thn (biI .eql t16 v3) fun v4 =>
 Br v4 (
 thn (biI .eql t18 (I 0)) fun v5 =>
 Br v5 (
 thn (padd 2 t17) fun v6 =>
 thn (ldN h0 2 v6) fun v7 =>
 thn (padd 2 t19) fun v8 =>
 thn (ldN h0 2 v8) fun v9 =>
 thn (biA [0, 0] .neq v7 v9) fun v10 =>
 Br v10 (
 Q (.bool false) h0) (
 thn (padd 1 t17) fun v11 =>
 thn (ld1 h0 v11) fun v12 =>
 thn (padd 1 t19) fun v13 =>
 thn (ld1 h0 v13) fun v14 =>
 thn (biI .neq v12 v14) fun v15 =>
 Br v15 (
 Q (.bool false) h0) (
 thn (padd 0 t17) fun v16 =>
 thn (ld1 h0 v16) fun v17 =>
 thn (idxS 9 t12 (I 0)) fun v18 =>
 thn (padd 4 v18) fun v19 =>
 thn (ld1 h0 v19) fun v20 =>
 thn (biI .neq v17 v20) fun v21 =>
 Br v21 (
 Q (.bool false) h0) (
 thn (padd 1 t17) fun v22 =>
 thn (ld1 h0 v22) fun v23 =>
 Cl Pr K 17 [t7, t16, v23, (.bool true)] h0 fun v24 h24 => -- (*donjon/cache.Cache).May
 Br v24 (
 Q (.bool false) h24) (
 A3_15 Q t5 t7 t10 t11 t12 t16 h24))))) (
 thn (biI .add t16 (I 1)) fun v6 =>
 A3_10 Q t5 t7 t10 t11 t12 v6 h0)) (
 thn (biI .add t16 (I 1)) fun v5 =>
 A3_10 Q t5 t7 t10 t11 t12 v5 h0)
) : A3_14 Q t5 t7 t10 t11 t12 t16 t17 t18 t19 h := by intro e he; cases he; exact bF L3 (by kernel_rfl) H
theorem b3_15 {h : AH} {Q : Value → AH → Prop} {t5 t7 t10 t11 t12 t16 : Value} (H :
 thn (biI .add t16 (I 1)) fun v0 =>
 A3_10 Q t5 t7 t10 t11 t12 v0 h
) : A3_15 Q t5 t7 t10 t11 t12 t16 h := by intro e he; cases he; exact bF L3 (by kernel_rfl) H
theorem c3 {h : AH} {Q : Value → AH → Prop} {a0 a1 a2 : Value} (H : A3_0 Q a0 a1 a2 h) : Cl Pr K 3 [a0, a1, a2] h Q :=
  ok_enter (by kernel_rfl) (by kernel_rfl) (Eq.mp (by kernel_rfl) (H (fun i => ([a0, a1, a2] : List Value).getD i undef) rfl))

/-! ### 5 donjon/donjonlaw13.CacheGrants: params 3, captured 0, results [tmp 6] -/
noncomputable def L5 : List (Option Nat × List Nat) := [(some 0, [0, 1, 2]), (some 3, [1, 3, 5]), (some 6, [1, 3, 5, 7]), (some 7, [1, 3, 5, 7, 9]), (some 9, [1, 3, 5, 7, 9]), (some 10, [5, 7]), (some 13, [5, 7, 10]), (some 16, [5, 7, 12]), (some 18, [5, 7, 12]), (some 19, [5, 7, 12, 13]), (some 22, [5, 12])]
noncomputable def A5_0 (Q : Value → AH → Prop) (t0 t1 t2 : Value) (h : AH) : Prop := Pt Pr K 5 none (retV Pr 5 Q) 200 [0, 1, 2] [.code (cc 5 2), .code (cc 5 3)] [] [t0, t1, t2] h
noncomputable def A5_1 (Q : Value → AH → Prop) (t1 t3 t5 : Value) (h : AH) : Prop := Pt Pr K 5 none (retV Pr 5 Q) 200 [1, 3, 5] [.code (cc 5 14), .code (cc 5 15)] [] [t1, t3, t5] h
noncomputable def A5_2 (Q : Value → AH → Prop) (t1 t3 t5 t7 : Value) (h : AH) : Prop := Pt Pr K 5 none (retV Pr 5 Q) 200 [1, 3, 5, 7] [.code (cc 5 124), .code (cc 5 125), .code (cc 5 63)] [] [t1, t3, t5, t7] h
noncomputable def A5_3 (Q : Value → AH → Prop) (t1 t3 t5 t7 t9 : Value) (h : AH) : Prop := Pt Pr K 5 none (retV Pr 5 Q) 200 [1, 3, 5, 7, 9] [.code (cc 5 2000), .code (cc 5 2001), .code (cc 5 1001), .inLoop (cc 5 500), .inBlock 0, .code (cc 5 63)] [] [t1, t3, t5, t7, t9] h
noncomputable def A5_4 (Q : Value → AH → Prop) (t1 t3 t5 t7 t9 : Value) (h : AH) : Prop := Pt Pr K 5 none (retV Pr 5 Q) 200 [1, 3, 5, 7, 9] [.code (cc 5 4004), .inBlock 1, .code (cc 5 2003), .inLoop (cc 5 500), .inBlock 0, .code (cc 5 63)] [] [t1, t3, t5, t7, t9] h
noncomputable def A5_5 (Q : Value → AH → Prop) (t5 t7 : Value) (h : AH) : Prop := Pt Pr K 5 none (retV Pr 5 Q) 200 [5, 7] [.code (cc 5 126), .code (cc 5 127)] [] [t5, t7] h
noncomputable def A5_6 (Q : Value → AH → Prop) (t5 t7 t10 : Value) (h : AH) : Prop := Pt Pr K 5 none (retV Pr 5 Q) 200 [5, 7, 10] [.code (cc 5 510), .code (cc 5 511)] [] [t5, t7, t10] h
noncomputable def A5_7 (Q : Value → AH → Prop) (t5 t7 t12 : Value) (h : AH) : Prop := Pt Pr K 5 none (retV Pr 5 Q) 200 [5, 7, 12] [.code (cc 5 2046), .code (cc 5 2047)] [] [t5, t7, t12] h
noncomputable def A5_8 (Q : Value → AH → Prop) (t5 t7 t12 : Value) (h : AH) : Prop := Pt Pr K 5 none (retV Pr 5 Q) 200 [5, 7, 12] [.code (cc 5 16378), .code (cc 5 4095)] [] [t5, t7, t12] h
noncomputable def A5_9 (Q : Value → AH → Prop) (t5 t7 t12 t13 : Value) (h : AH) : Prop := Pt Pr K 5 none (retV Pr 5 Q) 200 [5, 7, 12, 13] [.code (cc 5 8190), .code (cc 5 8191)] [] [t5, t7, t12, t13] h
noncomputable def A5_10 (Q : Value → AH → Prop) (t5 t12 : Value) (h : AH) : Prop := Pt Pr K 5 none (retV Pr 5 Q) 200 [5, 12] [.code (cc 5 32766), .code (cc 5 32767)] [] [t5, t12] h
theorem b5_0 {h : AH} {Q : Value → AH → Prop} {t0 t1 t2 : Value} (H :
 thn (blkOf 22 t0) fun b1 =>
 alc h b1 fun p2 h0 =>
 thn (blkOf 28 t2) fun b4 =>
 alc h0 b4 fun p5 h3 =>
 Cl Pr K 8 [t1] h3 fun v6 h6 => -- donjon/donjonlaw13.right
 thn (unV .not v6) fun v7 =>
 Br v7 (
 Cl Pr K 9 [] h6 fun v8 h8 => -- donjon/donjonlaw13.awake
 Q v8 h8) (
 thn (idxA 2 1 (pt p2 0 0) (I 0)) fun v8 =>
 thn (ld1 h6 v8) fun v9 =>
 thn (biI .lss v9 (I 1)) fun v10 =>
 Br v10 (
 Cl Pr K 9 [] h6 fun v11 h11 => -- donjon/donjonlaw13.awake
 Q v11 h11) (
 thn (idxA 2 1 (pt p2 0 0) (I 0)) fun v11 =>
 thn (ld1 h6 v11) fun v12 =>
 thn (biI .gtr v12 (I 2)) fun v13 =>
 Br v13 (
 Cl Pr K 9 [] h6 fun v14 h14 => -- donjon/donjonlaw13.awake
 Q v14 h14) (
 thn (idxA 2 1 (pt p2 0 0) (I 1)) fun v14 =>
 thn (ld1 h6 v14) fun v15 =>
 thn (biI .lss v15 (I 1)) fun v16 =>
 Br v16 (
 Cl Pr K 9 [] h6 fun v17 h17 => -- donjon/donjonlaw13.awake
 Q v17 h17) (
 thn (idxA 2 1 (pt p2 0 0) (I 1)) fun v17 =>
 thn (ld1 h6 v17) fun v18 =>
 thn (biI .gtr v18 (I 2)) fun v19 =>
 Br v19 (
 Cl Pr K 9 [] h6 fun v20 h20 => -- donjon/donjonlaw13.awake
 Q v20 h20) (
 A5_1 Q t1 (pt p2 0 0) (pt p5 0 0) h6)))))
) : A5_0 Q t0 t1 t2 h := by intro e he; cases he; exact bF L5 (by kernel_rfl) H
theorem b5_1 {h : AH} {Q : Value → AH → Prop} {t1 t3 t5 : Value} (H :
 thn (idxA 2 1 t3 (I 0)) fun v0 =>
 thn (ld1 h v0) fun v1 =>
 thn (idxA 2 1 t3 (I 1)) fun v2 =>
 thn (ld1 h v2) fun v3 =>
 Cl Pr K 11 [v1, v3] h fun v4 h4 => -- donjon/donjonlaw13.small
 Cl Pr K 10 [v4, (I 0)] h4 fun v5 h5 => -- donjon/cache.New
 thn (extV 0 v5) fun v6 =>
 thn (extV 1 v5) fun v7 =>
 thn (biP .eql v6 (.pointer none)) fun v8 =>
 Br v8 (
 Q (.bool false) h5) (
 thn (biI .neq v7 (I 0)) fun v9 =>
 Br v9 (
 Q (.bool false) h5) (
 A5_2 Q t1 t3 t5 v6 h5))
) : A5_1 Q t1 t3 t5 h := by intro e he; cases he; exact bF L5 (by kernel_rfl) H
theorem b5_2 {h : AH} {Q : Value → AH → Prop} {t1 t3 t5 t7 : Value} (H :
 A5_3 Q t1 t3 t5 t7 (I 0) h
) : A5_2 Q t1 t3 t5 t7 h := by intro e he; cases he; exact bF L5 (by kernel_rfl) H
theorem b5_3 {h : AH} {Q : Value → AH → Prop} {t1 t3 t5 t7 t9 : Value} (H :
 thn (lenS t1) fun v0 =>
 thn (biI .lss t9 v0) fun v1 =>
 Br v1 (
 A5_4 Q t1 t3 t5 t7 t9 h) (
 A5_5 Q t5 t7 h)
) : A5_3 Q t1 t3 t5 t7 t9 h := by intro e he; cases he; exact bF L5 (by kernel_rfl) H
theorem b5_4 {h : AH} {Q : Value → AH → Prop} {t1 t3 t5 t7 t9 : Value} (H :
 resv h 11 fun r1 h0 =>
 thn (idxA 2 1 t3 (I 0)) fun v2 =>
 thn (ld1 h0 v2) fun v3 =>
 thn (idxA 2 1 t3 (I 1)) fun v4 =>
 thn (ld1 h0 v4) fun v5 =>
 Cl Pr K 13 [(I 0), (I 4), v3, v5] h0 fun v6 h6 => -- donjon/donjonref13.New
 thn (idxS 15 t1 t9) fun v7 =>
 thn (ldN h6 15 v7) fun v8 =>
 Cl Pr K 12 [t7, v6, v8] h6 fun v9 h9 => -- donjon/donjonlaw13.does
(veq t7 t7 = true) ∧ (
(veq t1 t1 = true) ∧ (
(veq t9 t9 = true) ∧ (
(thn (idxS 15 t1 t9) fun v10 =>
 veq v10 v7 = true) ∧ (
(thn (ldN h0 15 v7) fun v11 =>
 veq v11 v8 = true) ∧ (
 thn (biI .add t9 (I 1)) fun v12 =>
 A5_3 Q t1 t3 t5 t7 v12 h9)))))
) : A5_4 Q t1 t3 t5 t7 t9 h := by intro e he; cases he; exact bF L5 (by kernel_rfl) H
theorem b5_5 {h : AH} {Q : Value → AH → Prop} {t5 t7 : Value} (H :
 thn (padd 1 t5) fun v0 =>
 thn (ld1 h v0) fun v1 =>
 thn (padd 3 t5) fun v2 =>
 thn (ld1 h v2) fun v3 =>
 thn (padd 5 t5) fun v4 =>
 thn (ld1 h v4) fun v5 =>
 Cl Pr K 19 [t7, v1, v3, v5] h fun v6 h6 => -- (*donjon/cache.Cache).Want
 thn (extV 0 v6) fun v7 =>
 thn (extV 1 v6) fun v8 =>
 thn (biI .neq v8 (I 0)) fun v9 =>
 Br v9 (
 thn (lenS v7) fun v10 =>
 thn (biI .eql v10 (I 0)) fun v11 =>
 Br v11 (
 Cl Pr K 9 [] h6 fun v12 h12 => -- donjon/donjonlaw13.awake
 Q v12 h12) (
 Q (.bool false) h6)) (
 A5_6 Q t5 t7 v7 h6)
) : A5_5 Q t5 t7 h := by intro e he; cases he; exact bF L5 (by kernel_rfl) H
theorem b5_6 {h : AH} {Q : Value → AH → Prop} {t5 t7 t10 : Value} (H :
 Cl Pr K 14 [t7] h fun v0 h0 => -- (*donjon/cache.Cache).Twin
 thn (biP .eql v0 (.pointer none)) fun v1 =>
 Br v1 (
 Q (.bool false) h0) (
 thn (lenS t10) fun v2 =>
 thn (biI .lss v2 (I 1)) fun v3 =>
 Br v3 (
 Q (.bool false) h0) (
 thn (lenS t10) fun v4 =>
 thn (biI .gtr v4 (I 2)) fun v5 =>
 Br v5 (
 Q (.bool false) h0) (
 A5_7 Q t5 t7 v0 h0)))
) : A5_6 Q t5 t7 t10 h := by intro e he; cases he; exact bF L5 (by kernel_rfl) H
theorem b5_7 {h : AH} {Q : Value → AH → Prop} {t5 t7 t12 : Value} (H :
 thn (padd 5 t5) fun v0 =>
 thn (ld1 h v0) fun v1 =>
 Br v1 (
 A5_8 Q t5 t7 t12 h) (
 A5_9 Q t5 t7 t12 (I 1) h)
) : A5_7 Q t5 t7 t12 h := by intro e he; cases he; exact bF L5 (by kernel_rfl) H
theorem b5_8 {h : AH} {Q : Value → AH → Prop} {t5 t7 t12 : Value} (H :
 thn (padd 1 t5) fun v0 =>
 thn (ld1 h v0) fun v1 =>
 thn (padd 3 t5) fun v2 =>
 thn (ld1 h v2) fun v3 =>
 thn (padd 4 t5) fun v4 =>
 thn (ld1 h v4) fun v5 =>
 thn (fillL [(I 0), (I 0)] [(0, 1, v5)]) fun c6 =>
 thn (fillL [(I 0), (I 0), (I 0), (I 0), (I 0), (I 0), (I 0), (.bool false), (I 0)] [(0, 1, (I 8)), (2, 1, v1), (3, 1, v3), (4, 1, (I 4)), (5, 2, (.agg ⟨c6⟩))]) fun c7 =>
 Cl Pr K 15 [t7, (.agg ⟨c7⟩)] h fun v8 h8 => -- (*donjon/cache.Cache).Take
 thn (extV 0 v8) fun v9 =>
 thn (extV 1 v8) fun v10 =>
 thn (biI .neq v10 (I 0)) fun v11 =>
 Br v11 (
 Q (.bool false) h8) (
 thn (padd 1 t5) fun v12 =>
 thn (ld1 h8 v12) fun v13 =>
 thn (fillL [(I 0), (I 0), (I 0), (I 0), (I 0), (I 0), (I 0), (.bool false), (I 0)] [(0, 1, (I 4)), (2, 1, v13)]) fun c14 =>
 thn (fillL [(I 0), (I 0), (I 0), (I 0), (I 0), (I 0), (I 0), (.bool false), (I 0)] [(0, 9, (.agg ⟨c14⟩))]) fun l16 =>
 alcS h8 9 26 l16 1 1 fun s17 h15 =>
 Cl Pr K 24 [v9, s17] h15 fun v18 h18 => -- donjon/donjonlaw12.Notes
 thn (unV .not v18) fun v19 =>
 Br v19 (
 Q (.bool false) h18) (
 thn (padd 1 t5) fun v20 =>
 thn (ld1 h18 v20) fun v21 =>
 thn (padd 3 t5) fun v22 =>
 thn (ld1 h18 v22) fun v23 =>
 thn (padd 5 t5) fun v24 =>
 thn (ld1 h18 v24) fun v25 =>
 Cl Pr K 17 [t7, v21, v23, v25] h18 fun v26 h26 => -- (*donjon/cache.Cache).May
 thn (unV .not v26) fun v27 =>
 Br v27 (
 Q (.bool false) h26) (
 thn (padd 1 t5) fun v28 =>
 thn (ld1 h26 v28) fun v29 =>
 thn (padd 3 t5) fun v30 =>
 thn (ld1 h26 v30) fun v31 =>
 Cl Pr K 17 [t7, v29, v31, (.bool false)] h26 fun v32 h32 => -- (*donjon/cache.Cache).May
 thn (unV .not v32) fun v33 =>
 Br v33 (
 Q (.bool false) h32) (
 A5_10 Q t5 t12 h32))))
) : A5_8 Q t5 t7 t12 h := by intro e he; cases he; exact bF L5 (by kernel_rfl) H
theorem b5_9 {h : AH} {Q : Value → AH → Prop} {t5 t7 t12 t13 : Value} (H :
 thn (padd 1 t5) fun v0 =>
 thn (ld1 h v0) fun v1 =>
 thn (padd 3 t5) fun v2 =>
 thn (ld1 h v2) fun v3 =>
 thn (padd 4 t5) fun v4 =>
 thn (ld1 h v4) fun v5 =>
 thn (fillL [(I 0), (I 0)] [(0, 1, v5)]) fun c6 =>
 thn (fillL [(I 0), (I 0), (I 0), (I 0), (I 0), (I 0), (I 0), (.bool false), (I 0)] [(0, 1, (I 8)), (2, 1, v1), (3, 1, v3), (4, 1, t13), (5, 2, (.agg ⟨c6⟩))]) fun c7 =>
 Cl Pr K 15 [t7, (.agg ⟨c7⟩)] h fun v8 h8 => -- (*donjon/cache.Cache).Take
 thn (extV 0 v8) fun v9 =>
 thn (extV 1 v8) fun v10 =>
 thn (biI .neq v10 (I 0)) fun v11 =>
 Br v11 (
 Q (.bool false) h8) (
 thn (padd 1 t5) fun v12 =>
 thn (ld1 h8 v12) fun v13 =>
 thn (fillL [(I 0), (I 0), (I 0), (I 0), (I 0), (I 0), (I 0), (.bool false), (I 0)] [(0, 1, (I 4)), (2, 1, v13)]) fun c14 =>
 thn (fillL [(I 0), (I 0), (I 0), (I 0), (I 0), (I 0), (I 0), (.bool false), (I 0)] [(0, 9, (.agg ⟨c14⟩))]) fun l16 =>
 alcS h8 9 26 l16 1 1 fun s17 h15 =>
 Cl Pr K 24 [v9, s17] h15 fun v18 h18 => -- donjon/donjonlaw12.Notes
 thn (unV .not v18) fun v19 =>
 Br v19 (
 Q (.bool false) h18) (
 thn (padd 1 t5) fun v20 =>
 thn (ld1 h18 v20) fun v21 =>
 thn (padd 3 t5) fun v22 =>
 thn (ld1 h18 v22) fun v23 =>
 thn (padd 5 t5) fun v24 =>
 thn (ld1 h18 v24) fun v25 =>
 Cl Pr K 17 [t7, v21, v23, v25] h18 fun v26 h26 => -- (*donjon/cache.Cache).May
 thn (unV .not v26) fun v27 =>
 Br v27 (
 Q (.bool false) h26) (
 thn (padd 1 t5) fun v28 =>
 thn (ld1 h26 v28) fun v29 =>
 thn (padd 3 t5) fun v30 =>
 thn (ld1 h26 v30) fun v31 =>
 Cl Pr K 17 [t7, v29, v31, (.bool false)] h26 fun v32 h32 => -- (*donjon/cache.Cache).May
 thn (unV .not v32) fun v33 =>
 Br v33 (
 Q (.bool false) h32) (
 A5_10 Q t5 t12 h32))))
) : A5_9 Q t5 t7 t12 t13 h := by intro e he; cases he; exact bF L5 (by kernel_rfl) H
theorem b5_10 {h : AH} {Q : Value → AH → Prop} {t5 t12 : Value} (H :
 thn (nilV t12) fun v0 =>
 thn (padd 0 v0) fun v1 =>
 thn (ld1 h v1) fun v2 =>
 Cl Pr K 25 [v2] h fun v3 h3 => -- (*donjon/tags.Cache[donjon/cache.Copy]).Len
 thn (padd 1 t5) fun v4 =>
 thn (ld1 h3 v4) fun v5 =>
 thn (fillL [(I 0), (I 0), (I 0), (I 0), (I 0), (I 0), (I 0), (.bool false), (I 0)] [(0, 1, (I 9)), (2, 1, v5)]) fun c6 =>
 Cl Pr K 15 [t12, (.agg ⟨c6⟩)] h3 fun v7 h7 => -- (*donjon/cache.Cache).Take
 thn (extV 0 v7) fun v8 =>
 thn (extV 1 v7) fun v9 =>
 Cl Pr K 18 [t12] h7 fun v10 h10 => -- (*donjon/cache.Cache).Asked
 thn (extV 0 v10) fun v11 =>
 thn (extV 1 v10) fun v12 =>
 thn (extV 2 v10) fun v13 =>
 thn (biI .eql v9 (I 0)) fun v14 =>
 Br v14 (
 thn (lenS v8) fun v15 =>
 thn (biI .eql v15 (I 0)) fun v16 =>
 Br v16 (
 thn (unV .not v13) fun v17 =>
 Br v17 (
 thn (nilV t12) fun v18 =>
 thn (padd 0 v18) fun v19 =>
 thn (ld1 h10 v19) fun v20 =>
 Cl Pr K 25 [v20] h10 fun v21 h21 => -- (*donjon/tags.Cache[donjon/cache.Copy]).Len
 thn (biI .eql v21 v3) fun v22 =>
 Br v22 (
 Cl Pr K 9 [] h21 fun v23 h23 => -- donjon/donjonlaw13.awake
 Q v23 h23) (
 Q (.bool false) h21)) (
 Q (.bool false) h10)) (
 Q (.bool false) h10)) (
 Q (.bool false) h10)
) : A5_10 Q t5 t12 h := by intro e he; cases he; exact bF L5 (by kernel_rfl) H
theorem c5 {h : AH} {Q : Value → AH → Prop} {a0 a1 a2 : Value} (H : A5_0 Q a0 a1 a2 h) : Cl Pr K 5 [a0, a1, a2] h Q :=
  ok_enter (by kernel_rfl) (by kernel_rfl) (Eq.mp (by kernel_rfl) (H (fun i => ([a0, a1, a2] : List Value).getD i undef) rfl))

/-! ### 8 donjon/donjonlaw13.right: params 1, captured 0, results [tmp 2] -/
noncomputable def L8 : List (Option Nat × List Nat) := [(some 0, [0]), (some 2, [0, 3]), (some 4, [0, 3]), (some 3, [0, 3])]
noncomputable def A8_0 (Q : Value → AH → Prop) (t0 : Value) (h : AH) : Prop := Pt Pr K 8 none (retV Pr 8 Q) 38 [0] [.code (cc 8 2), .code (cc 8 3)] [] [t0] h
noncomputable def A8_1 (Q : Value → AH → Prop) (t0 t3 : Value) (h : AH) : Prop := Pt Pr K 8 none (retV Pr 8 Q) 38 [0, 3] [.code (cc 8 208), .code (cc 8 209), .code (cc 8 105), .inLoop (cc 8 52), .inBlock 0, .code (cc 8 7)] [] [t0, t3] h
noncomputable def A8_2 (Q : Value → AH → Prop) (t0 t3 : Value) (h : AH) : Prop := Pt Pr K 8 none (retV Pr 8 Q) 38 [0, 3] [.code (cc 8 840), .code (cc 8 841), .inBlock 1, .code (cc 8 211), .inLoop (cc 8 52), .inBlock 0, .code (cc 8 7)] [] [t0, t3] h
noncomputable def A8_3 (Q : Value → AH → Prop) (t0 t3 : Value) (h : AH) : Prop := Pt Pr K 8 none (retV Pr 8 Q) 38 [0, 3] [.code (cc 8 211), .inLoop (cc 8 52), .inBlock 0, .code (cc 8 7)] [] [t0, t3] h
theorem b8_0 {h : AH} {Q : Value → AH → Prop} {t0 : Value} (H :
 A8_1 Q t0 (I 0) h
) : A8_0 Q t0 h := by intro e he; cases he; exact bF L8 (by kernel_rfl) H
theorem b8_1 {h : AH} {Q : Value → AH → Prop} {t0 t3 : Value} (H :
 thn (lenS t0) fun v0 =>
 thn (biI .lss t3 v0) fun v1 =>
 Br v1 (
 A8_2 Q t0 t3 h) (
 thn (lenS t0) fun v2 =>
 thn (biI .leq v2 (I 80)) fun v3 =>
 Q v3 h)
) : A8_1 Q t0 t3 h := by intro e he; cases he; exact bF L8 (by kernel_rfl) H
theorem b8_2 {h : AH} {Q : Value → AH → Prop} {t0 t3 : Value} (H :
 thn (idxS 15 t0 t3) fun v0 =>
 thn (padd 0 v0) fun v1 =>
 thn (ld1 h v1) fun v2 =>
 thn (biI .eql v2 (I 1)) fun v3 =>
 Br v3 (
 thn (idxS 15 t0 t3) fun v4 =>
 thn (padd 6 v4) fun v5 =>
 thn (padd 0 v5) fun v6 =>
 thn (ld1 h v6) fun v7 =>
 thn (biI .eql v7 (I 8)) fun v8 =>
 Br v8 (
 thn (idxS 15 t0 t3) fun v9 =>
 thn (padd 6 v9) fun v10 =>
 thn (padd 4 v10) fun v11 =>
 thn (ld1 h v11) fun v12 =>
 Cl Pr K 34 [v12] h fun v13 h13 => -- donjon/moesi.Valid
 thn (unV .not v13) fun v14 =>
 Br v14 (
 Q (.bool false) h13) (
 A8_3 Q t0 t3 h13)) (
 thn (biI .add t3 (I 1)) fun v9 =>
 A8_1 Q t0 v9 h)) (
 thn (biI .add t3 (I 1)) fun v4 =>
 A8_1 Q t0 v4 h)
) : A8_2 Q t0 t3 h := by intro e he; cases he; exact bF L8 (by kernel_rfl) H
theorem b8_3 {h : AH} {Q : Value → AH → Prop} {t0 t3 : Value} (H :
 thn (biI .add t3 (I 1)) fun v0 =>
 A8_1 Q t0 v0 h
) : A8_3 Q t0 t3 h := by intro e he; cases he; exact bF L8 (by kernel_rfl) H
theorem c8 {h : AH} {Q : Value → AH → Prop} {a0 : Value} (H : A8_0 Q a0 h) : Cl Pr K 8 [a0] h Q :=
  ok_enter (by kernel_rfl) (by kernel_rfl) (Eq.mp (by kernel_rfl) (H (fun i => ([a0] : List Value).getD i undef) rfl))

/-! ### 11 donjon/donjonlaw13.small: params 2, captured 0, results [cell 4 : 36] -/
noncomputable def L11 : List (Option Nat × List Nat) := [(some 0, [0, 1])]
noncomputable def A11_0 (Q : Value → AH → Prop) (t0 t1 : Value) (h : AH) : Prop := Pt Pr K 11 none (retV Pr 11 Q) 8 [0, 1] [.code (cc 11 2), .code (cc 11 3)] [] [t0, t1] h
theorem b11_0 {h : AH} {Q : Value → AH → Prop} {t0 t1 : Value} (H :
 alc h (.cells [(I 0), (I 0), (I 0), (I 0), (I 0), (I 0), (I 0)] 36 (0, 0) true) fun p1 h0 =>
 thn (fillL [(I 0), (I 0), (I 0), (I 0), (I 0), (I 0), (I 0)] [(0, 1, (I 3)), (1, 1, (I 2)), (2, 1, t0), (3, 1, t1), (4, 1, (I 4)), (5, 1, (I 2)), (6, 1, (I 1))]) fun c2 =>
 thn (stV h0 7 (pt p1 0 0) (.agg ⟨c2⟩)) fun h3 =>
 thn (ldN h3 7 (pt p1 0 0)) fun v4 =>
 Q v4 h3
) : A11_0 Q t0 t1 h := by intro e he; cases he; exact bF L11 (by kernel_rfl) H
theorem c11 {h : AH} {Q : Value → AH → Prop} {a0 a1 : Value} (H : A11_0 Q a0 a1 h) : Cl Pr K 11 [a0, a1] h Q :=
  ok_enter (by kernel_rfl) (by kernel_rfl) (Eq.mp (by kernel_rfl) (H (fun i => ([a0, a1] : List Value).getD i undef) rfl))

/-! ### 12 donjon/donjonlaw13.does: params 3, captured 0, results [tmp 6] -/
noncomputable def L12 : List (Option Nat × List Nat) := [(some 0, [0, 1, 2]), (some 3, [0, 1, 5]), (some 6, [0, 1, 5, 22]), (some 7, [0, 1, 5]), (some 10, [0, 1, 5, 22]), (some 11, [0, 1, 5]), (some 14, [0, 1, 5, 22]), (some 15, [0, 1, 5])]
noncomputable def A12_0 (Q : Value → AH → Prop) (t0 t1 t2 : Value) (h : AH) : Prop := Pt Pr K 12 none (retV Pr 12 Q) 155 [0, 1, 2] [.code (cc 12 2), .code (cc 12 3)] [] [t0, t1, t2] h
noncomputable def A12_1 (Q : Value → AH → Prop) (t0 t1 t5 : Value) (h : AH) : Prop := Pt Pr K 12 none (retV Pr 12 Q) 155 [0, 1, 5] [.code (cc 12 212), .code (cc 12 213), .inBlock 0, .code (cc 12 7)] [] [t0, t1, t5] h
noncomputable def A12_2 (Q : Value → AH → Prop) (t0 t1 t5 t22 : Value) (h : AH) : Prop := Pt Pr K 12 none (retV Pr 12 Q) 155 [0, 1, 5, 22] [.code (cc 12 214), .code (cc 12 215), .inBlock 0, .code (cc 12 7)] [] [t0, t1, t5, t22] h
noncomputable def A12_3 (Q : Value → AH → Prop) (t0 t1 t5 : Value) (h : AH) : Prop := Pt Pr K 12 none (retV Pr 12 Q) 155 [0, 1, 5] [.code (cc 12 860), .code (cc 12 861), .inBlock 0, .code (cc 12 7)] [] [t0, t1, t5] h
noncomputable def A12_4 (Q : Value → AH → Prop) (t0 t1 t5 t22 : Value) (h : AH) : Prop := Pt Pr K 12 none (retV Pr 12 Q) 155 [0, 1, 5, 22] [.code (cc 12 862), .code (cc 12 863), .inBlock 0, .code (cc 12 7)] [] [t0, t1, t5, t22] h
noncomputable def A12_5 (Q : Value → AH → Prop) (t0 t1 t5 : Value) (h : AH) : Prop := Pt Pr K 12 none (retV Pr 12 Q) 155 [0, 1, 5] [.code (cc 12 3452), .code (cc 12 3453), .inBlock 0, .code (cc 12 7)] [] [t0, t1, t5] h
noncomputable def A12_6 (Q : Value → AH → Prop) (t0 t1 t5 t22 : Value) (h : AH) : Prop := Pt Pr K 12 none (retV Pr 12 Q) 155 [0, 1, 5, 22] [.code (cc 12 3454), .code (cc 12 3455), .inBlock 0, .code (cc 12 7)] [] [t0, t1, t5, t22] h
noncomputable def A12_7 (Q : Value → AH → Prop) (t0 t1 t5 : Value) (h : AH) : Prop := Pt Pr K 12 none (retV Pr 12 Q) 155 [0, 1, 5] [.code (cc 12 13820), .code (cc 12 13821), .inBlock 0, .code (cc 12 7)] [] [t0, t1, t5] h
theorem b12_0 {h : AH} {Q : Value → AH → Prop} {t0 t1 t2 : Value} (H :
 thn (blkOf 28 t2) fun b1 =>
 alc h b1 fun p2 h0 =>
 thn (padd 0 (pt p2 0 0)) fun v3 =>
 thn (ld1 h0 v3) fun v4 =>
 thn (biI .eql v4 (I 0)) fun v5 =>
 Br v5 (
 A12_1 Q t0 t1 (pt p2 0 0) h0) (
 A12_2 Q t0 t1 (pt p2 0 0) v4 h0)
) : A12_0 Q t0 t1 t2 h := by intro e he; cases he; exact bF L12 (by kernel_rfl) H
theorem b12_1 {h : AH} {Q : Value → AH → Prop} {t0 t1 t5 : Value} (H :
 thn (padd 1 t5) fun v0 =>
 thn (ld1 h v0) fun v1 =>
 thn (padd 3 t5) fun v2 =>
 thn (ld1 h v2) fun v3 =>
 thn (padd 5 t5) fun v4 =>
 thn (ld1 h v4) fun v5 =>
 Cl Pr K 19 [t0, v1, v3, v5] h fun v6 h6 => -- (*donjon/cache.Cache).Want
 thn (extV 0 v6) fun v7 =>
 thn (extV 1 v6) fun v8 =>
 thn (padd 1 t5) fun v9 =>
 thn (ld1 h6 v9) fun v10 =>
 thn (padd 3 t5) fun v11 =>
 thn (ld1 h6 v11) fun v12 =>
 thn (padd 5 t5) fun v13 =>
 thn (ld1 h6 v13) fun v14 =>
 Cl Pr K 36 [t1, v10, v12, v14] h6 fun v15 h15 => -- (*donjon/donjonref13.Cache).Want
 thn (extV 0 v15) fun v16 =>
 thn (extV 1 v15) fun v17 =>
 Cl Pr K 24 [v7, v16] h15 fun v18 h18 => -- donjon/donjonlaw12.Notes
 Br v18 (
 thn (biI .eql v8 v17) fun v19 =>
 Q v19 h18) (
 Q (.bool false) h18)
) : A12_1 Q t0 t1 t5 h := by intro e he; cases he; exact bF L12 (by kernel_rfl) H
theorem b12_2 {h : AH} {Q : Value → AH → Prop} {t0 t1 t5 t22 : Value} (H :
 thn (biI .eql t22 (I 1)) fun v0 =>
 Br v0 (
 A12_3 Q t0 t1 t5 h) (
 A12_4 Q t0 t1 t5 t22 h)
) : A12_2 Q t0 t1 t5 t22 h := by intro e he; cases he; exact bF L12 (by kernel_rfl) H
theorem b12_3 {h : AH} {Q : Value → AH → Prop} {t0 t1 t5 : Value} (H :
 thn (padd 6 t5) fun v0 =>
 thn (ldN h 9 v0) fun v1 =>
 Cl Pr K 15 [t0, v1] h fun v2 h2 => -- (*donjon/cache.Cache).Take
 thn (extV 0 v2) fun v3 =>
 thn (extV 1 v2) fun v4 =>
 thn (padd 6 t5) fun v5 =>
 thn (ldN h2 9 v5) fun v6 =>
 Cl Pr K 37 [t1, v6] h2 fun v7 h7 => -- (*donjon/donjonref13.Cache).Take
 thn (extV 0 v7) fun v8 =>
 thn (extV 1 v7) fun v9 =>
 Cl Pr K 24 [v3, v8] h7 fun v10 h10 => -- donjon/donjonlaw12.Notes
 Br v10 (
 thn (biI .eql v4 v9) fun v11 =>
 Q v11 h10) (
 Q (.bool false) h10)
) : A12_3 Q t0 t1 t5 h := by intro e he; cases he; exact bF L12 (by kernel_rfl) H
theorem b12_4 {h : AH} {Q : Value → AH → Prop} {t0 t1 t5 t22 : Value} (H :
 thn (biI .eql t22 (I 2)) fun v0 =>
 Br v0 (
 A12_5 Q t0 t1 t5 h) (
 A12_6 Q t0 t1 t5 t22 h)
) : A12_4 Q t0 t1 t5 t22 h := by intro e he; cases he; exact bF L12 (by kernel_rfl) H
theorem b12_5 {h : AH} {Q : Value → AH → Prop} {t0 t1 t5 : Value} (H :
 thn (padd 1 t5) fun v0 =>
 thn (ld1 h v0) fun v1 =>
 thn (padd 2 t5) fun v2 =>
 thn (ld1 h v2) fun v3 =>
 thn (padd 3 t5) fun v4 =>
 thn (ld1 h v4) fun v5 =>
 Cl Pr K 20 [t0, v1, v3, v5] h fun v6 h6 => -- (*donjon/cache.Cache).Read
 thn (extV 0 v6) fun v7 =>
 thn (extV 1 v6) fun v8 =>
 thn (padd 1 t5) fun v9 =>
 thn (ld1 h6 v9) fun v10 =>
 thn (padd 2 t5) fun v11 =>
 thn (ld1 h6 v11) fun v12 =>
 thn (padd 3 t5) fun v13 =>
 thn (ld1 h6 v13) fun v14 =>
 Cl Pr K 38 [t1, v10, v12, v14, (.bool false), (I 0)] h6 fun v15 h15 => -- (*donjon/donjonref13.Cache).Use
 thn (extV 0 v15) fun v16 =>
 thn (extV 1 v15) fun v17 =>
 thn (biI .eql v7 v16) fun v18 =>
 Br v18 (
 thn (biI .eql v8 v17) fun v19 =>
 Q v19 h15) (
 Q (.bool false) h15)
) : A12_5 Q t0 t1 t5 h := by intro e he; cases he; exact bF L12 (by kernel_rfl) H
theorem b12_6 {h : AH} {Q : Value → AH → Prop} {t0 t1 t5 t22 : Value} (H :
 thn (biI .eql t22 (I 3)) fun v0 =>
 Br v0 (
 A12_7 Q t0 t1 t5 h) (
 resv h 18 fun r2 h1 =>
 thn (padd 1 t5) fun v3 =>
 thn (ld1 h1 v3) fun v4 =>
 thn (padd 3 t5) fun v5 =>
 thn (ld1 h1 v5) fun v6 =>
 thn (padd 5 t5) fun v7 =>
 thn (ld1 h1 v7) fun v8 =>
 Cl Pr K 17 [t0, v4, v6, v8] h1 fun v9 h9 => -- (*donjon/cache.Cache).May
 thn (padd 1 t5) fun v10 =>
 thn (ld1 h9 v10) fun v11 =>
 thn (padd 3 t5) fun v12 =>
 thn (ld1 h9 v12) fun v13 =>
 thn (padd 5 t5) fun v14 =>
 thn (ld1 h9 v14) fun v15 =>
 Cl Pr K 39 [t1, v11, v13, v15] h9 fun v16 h16 => -- (*donjon/donjonref13.Cache).May
 thn (biB .eql v9 v16) fun v17 =>
(veq t1 t1 = true) ∧ (
(thn (padd 1 t5) fun v18 =>
 veq v18 v10 = true) ∧ (
(thn (ld1 h1 v10) fun v19 =>
 veq v19 v11 = true) ∧ (
(thn (padd 3 t5) fun v20 =>
 veq v20 v12 = true) ∧ (
(thn (ld1 h1 v12) fun v21 =>
 veq v21 v13 = true) ∧ (
(thn (padd 5 t5) fun v22 =>
 veq v22 v14 = true) ∧ (
(thn (ld1 h1 v14) fun v23 =>
 veq v23 v15 = true) ∧ (
 Q v17 h16))))))))
) : A12_6 Q t0 t1 t5 t22 h := by intro e he; cases he; exact bF L12 (by kernel_rfl) H
theorem b12_7 {h : AH} {Q : Value → AH → Prop} {t0 t1 t5 : Value} (H :
 thn (padd 1 t5) fun v0 =>
 thn (ld1 h v0) fun v1 =>
 thn (padd 2 t5) fun v2 =>
 thn (ld1 h v2) fun v3 =>
 thn (padd 3 t5) fun v4 =>
 thn (ld1 h v4) fun v5 =>
 thn (padd 4 t5) fun v6 =>
 thn (ld1 h v6) fun v7 =>
 Cl Pr K 38 [t1, v1, v3, v5, (.bool true), v7] h fun v8 h8 => -- (*donjon/donjonref13.Cache).Use
 thn (extV 0 v8) fun v9 =>
 thn (extV 1 v8) fun v10 =>
 thn (padd 1 t5) fun v11 =>
 thn (ld1 h8 v11) fun v12 =>
 thn (padd 2 t5) fun v13 =>
 thn (ld1 h8 v13) fun v14 =>
 thn (padd 3 t5) fun v15 =>
 thn (ld1 h8 v15) fun v16 =>
 thn (padd 4 t5) fun v17 =>
 thn (ld1 h8 v17) fun v18 =>
 Cl Pr K 22 [t0, v12, v14, v16, v18] h8 fun v19 h19 => -- (*donjon/cache.Cache).Write
 thn (biI .eql v19 v10) fun v20 =>
 Q v20 h19
) : A12_7 Q t0 t1 t5 h := by intro e he; cases he; exact bF L12 (by kernel_rfl) H
theorem c12 {h : AH} {Q : Value → AH → Prop} {a0 a1 a2 : Value} (H : A12_0 Q a0 a1 a2 h) : Cl Pr K 12 [a0, a1, a2] h Q :=
  ok_enter (by kernel_rfl) (by kernel_rfl) (Eq.mp (by kernel_rfl) (H (fun i => ([a0, a1, a2] : List Value).getD i undef) rfl))

/-! ### 13 donjon/donjonref13.New: params 4, captured 0, results [tmp 8] -/
noncomputable def L13 : List (Option Nat × List Nat) := [(some 0, [0, 1, 2, 3])]
noncomputable def A13_0 (Q : Value → AH → Prop) (t0 t1 t2 t3 : Value) (h : AH) : Prop := Pt Pr K 13 none (retV Pr 13 Q) 16 [0, 1, 2, 3] [.code (cc 13 2), .code (cc 13 3)] [] [t0, t1, t2, t3] h
theorem b13_0 {h : AH} {Q : Value → AH → Prop} {t0 t1 t2 t3 : Value} (H :
 thn (fillL [(I 0), (I 0), (I 0), (I 0), (I 0)] [(0, 1, (I (-1)))]) fun c0 =>
 thn (fillL [(I 0), (I 0), (I 0), (I 0), (.slice none 0 0), (I 0), (.bool false), (I 0), (I 0), (I 0), (I 0), (I 0)] [(0, 1, t0), (1, 1, t1), (2, 1, t2), (3, 1, t3), (5, 1, (I (-1))), (7, 5, (.agg ⟨c0⟩))]) fun c1 =>
 thn (blkOf 102 (.agg ⟨c1⟩)) fun b3 =>
 alc h b3 fun p4 h2 =>
 Q (pt p4 0 0) h2
) : A13_0 Q t0 t1 t2 t3 h := by intro e he; cases he; exact bF L13 (by kernel_rfl) H
theorem c13 {h : AH} {Q : Value → AH → Prop} {a0 a1 a2 a3 : Value} (H : A13_0 Q a0 a1 a2 a3 h) : Cl Pr K 13 [a0, a1, a2, a3] h Q :=
  ok_enter (by kernel_rfl) (by kernel_rfl) (Eq.mp (by kernel_rfl) (H (fun i => ([a0, a1, a2, a3] : List Value).getD i undef) rfl))

/-! ### 16 (*donjon/tags.Cache[donjon/cache.Copy]).Peek: params 2, captured 0, results [cell 4 : 46, tmp 5] -/
noncomputable def L16 : List (Option Nat × List Nat) := [(some 0, [0, 1]), (some 4, [4, 6, 7])]
noncomputable def A16_0 (Q : Value → AH → Prop) (t0 t1 : Value) (h : AH) : Prop := Pt Pr K 16 none (retV Pr 16 Q) 29 [0, 1] [.code (cc 16 2), .code (cc 16 3)] [] [t0, t1] h
noncomputable def A16_1 (Q : Value → AH → Prop) (t4 t6 t7 : Value) (h : AH) : Prop := Pt Pr K 16 none (retV Pr 16 Q) 29 [4, 6, 7] [.code (cc 16 60), .code (cc 16 61), .code (cc 16 31)] [] [t4, t6, t7] h
theorem b16_0 {h : AH} {Q : Value → AH → Prop} {t0 t1 : Value} (H :
 alc h (.cells [(I 0), (I 0), (I 0), (I 0)] 46 (0, 0) true) fun p1 h0 =>
 Cl Pr K 43 [t0, t1] h0 fun v2 h2 => -- (*donjon/tags.Cache[donjon/cache.Copy]).find
 thn (extV 0 v2) fun v3 =>
 thn (extV 1 v2) fun v4 =>
 thn (extV 2 v2) fun v5 =>
 thn (biI .neq v5 (I 0)) fun v6 =>
 Br v6 (
 thn (ldN h2 4 (pt p1 0 0)) fun v7 =>
 thn (stV h2 4 (pt p1 0 0) v7) fun h8 =>
 thn (ldN h8 4 (pt p1 0 0)) fun v9 =>
 Q (.tuple ⟨[v9, v5]⟩) h8) (
 A16_1 Q (pt p1 0 0) v3 v4 h2)
) : A16_0 Q t0 t1 h := by intro e he; cases he; exact bF L16 (by kernel_rfl) H
theorem b16_1 {h : AH} {Q : Value → AH → Prop} {t4 t6 t7 : Value} (H :
 thn (biI .lss t7 (I 0)) fun v0 =>
 Br v0 (
 thn (ldN h 4 t4) fun v1 =>
 thn (stV h 4 t4 v1) fun h2 =>
 thn (ldN h2 4 t4) fun v3 =>
 Q (.tuple ⟨[v3, (I 12)]⟩) h2) (
 thn (nilV t6) fun v1 =>
 thn (ld1 h v1) fun v2 =>
 thn (idxS 5 v2 t7) fun v3 =>
 thn (padd 1 v3) fun v4 =>
 thn (ldN h 4 v4) fun v5 =>
 thn (stV h 4 t4 v5) fun h6 =>
 thn (ldN h6 4 t4) fun v7 =>
 Q (.tuple ⟨[v7, (I 0)]⟩) h6)
) : A16_1 Q t4 t6 t7 h := by intro e he; cases he; exact bF L16 (by kernel_rfl) H
theorem c16 {h : AH} {Q : Value → AH → Prop} {a0 a1 : Value} (H : A16_0 Q a0 a1 h) : Cl Pr K 16 [a0, a1] h Q :=
  ok_enter (by kernel_rfl) (by kernel_rfl) (Eq.mp (by kernel_rfl) (H (fun i => ([a0, a1] : List Value).getD i undef) rfl))

/-! ### 24 donjon/donjonlaw12.Notes: params 2, captured 0, results [tmp 4] -/
noncomputable def L24 : List (Option Nat × List Nat) := [(some 0, [0, 1]), (some 3, [0, 1]), (some 4, [0, 1, 5]), (some 6, [0, 1, 5]), (some 5, [0, 1, 5])]
noncomputable def A24_0 (Q : Value → AH → Prop) (t0 t1 : Value) (h : AH) : Prop := Pt Pr K 24 none (retV Pr 24 Q) 26 [0, 1] [.code (cc 24 2), .code (cc 24 3)] [] [t0, t1] h
noncomputable def A24_1 (Q : Value → AH → Prop) (t0 t1 : Value) (h : AH) : Prop := Pt Pr K 24 none (retV Pr 24 Q) 26 [0, 1] [.code (cc 24 28), .code (cc 24 29), .code (cc 24 15)] [] [t0, t1] h
noncomputable def A24_2 (Q : Value → AH → Prop) (t0 t1 t5 : Value) (h : AH) : Prop := Pt Pr K 24 none (retV Pr 24 Q) 26 [0, 1, 5] [.code (cc 24 464), .code (cc 24 465), .code (cc 24 233), .inLoop (cc 24 116), .inBlock 0, .code (cc 24 15)] [] [t0, t1, t5] h
noncomputable def A24_3 (Q : Value → AH → Prop) (t0 t1 t5 : Value) (h : AH) : Prop := Pt Pr K 24 none (retV Pr 24 Q) 26 [0, 1, 5] [.code (cc 24 1864), .code (cc 24 1865), .inBlock 1, .code (cc 24 467), .inLoop (cc 24 116), .inBlock 0, .code (cc 24 15)] [] [t0, t1, t5] h
noncomputable def A24_4 (Q : Value → AH → Prop) (t0 t1 t5 : Value) (h : AH) : Prop := Pt Pr K 24 none (retV Pr 24 Q) 26 [0, 1, 5] [.code (cc 24 467), .inLoop (cc 24 116), .inBlock 0, .code (cc 24 15)] [] [t0, t1, t5] h
theorem b24_0 {h : AH} {Q : Value → AH → Prop} {t0 t1 : Value} (H :
 thn (lenS t0) fun v0 =>
 thn (lenS t1) fun v1 =>
 thn (biI .neq v0 v1) fun v2 =>
 Br v2 (
 Q (.bool false) h) (
 A24_1 Q t0 t1 h)
) : A24_0 Q t0 t1 h := by intro e he; cases he; exact bF L24 (by kernel_rfl) H
theorem b24_1 {h : AH} {Q : Value → AH → Prop} {t0 t1 : Value} (H :
 A24_2 Q t0 t1 (I 0) h
) : A24_1 Q t0 t1 h := by intro e he; cases he; exact bF L24 (by kernel_rfl) H
theorem b24_2 {h : AH} {Q : Value → AH → Prop} {t0 t1 t5 : Value} (H :
 thn (lenS t0) fun v0 =>
 thn (biI .lss t5 v0) fun v1 =>
 Br v1 (
 A24_3 Q t0 t1 t5 h) (
 Q (.bool true) h)
) : A24_2 Q t0 t1 t5 h := by intro e he; cases he; exact bF L24 (by kernel_rfl) H
theorem b24_3 {h : AH} {Q : Value → AH → Prop} {t0 t1 t5 : Value} (H :
 resv h 9 fun r1 h0 =>
 thn (idxS 9 t0 t5) fun v2 =>
 thn (ldN h0 9 v2) fun v3 =>
 thn (idxS 9 t1 t5) fun v4 =>
 thn (ldN h0 9 v4) fun v5 =>
 thn (biA [0, 0, 0, 0, 0, 0, 0, 1, 0] .neq v3 v5) fun v6 =>
 Br v6 (
 Q (.bool false) h0) (
 A24_4 Q t0 t1 t5 h0)
) : A24_3 Q t0 t1 t5 h := by intro e he; cases he; exact bF L24 (by kernel_rfl) H
theorem b24_4 {h : AH} {Q : Value → AH → Prop} {t0 t1 t5 : Value} (H :
 thn (biI .add t5 (I 1)) fun v0 =>
 A24_2 Q t0 t1 v0 h
) : A24_4 Q t0 t1 t5 h := by intro e he; cases he; exact bF L24 (by kernel_rfl) H
theorem c24 {h : AH} {Q : Value → AH → Prop} {a0 a1 : Value} (H : A24_0 Q a0 a1 h) : Cl Pr K 24 [a0, a1] h Q :=
  ok_enter (by kernel_rfl) (by kernel_rfl) (Eq.mp (by kernel_rfl) (H (fun i => ([a0, a1] : List Value).getD i undef) rfl))

/-! ### 25 (*donjon/tags.Cache[donjon/cache.Copy]).Len: params 1, captured 0, results [tmp 2] -/
noncomputable def L25 : List (Option Nat × List Nat) := [(some 0, [0]), (some 3, [0, 3]), (some 4, [3, 11, 12, 13]), (some 5, [3, 11, 12, 13])]
noncomputable def A25_0 (Q : Value → AH → Prop) (t0 : Value) (h : AH) : Prop := Pt Pr K 25 none (retV Pr 25 Q) 23 [0] [.code (cc 25 2), .code (cc 25 3)] [] [t0] h
noncomputable def A25_1 (Q : Value → AH → Prop) (t0 t3 : Value) (h : AH) : Prop := Pt Pr K 25 none (retV Pr 25 Q) 23 [0, 3] [.code (cc 25 116), .code (cc 25 117), .code (cc 25 15)] [] [t0, t3] h
noncomputable def A25_2 (Q : Value → AH → Prop) (t3 t11 t12 t13 : Value) (h : AH) : Prop := Pt Pr K 25 none (retV Pr 25 Q) 23 [3, 11, 12, 13] [.code (cc 25 936), .code (cc 25 937), .inLoop (cc 25 468), .inBlock 0, .code (cc 25 15)] [] [t3, t11, t12, t13] h
noncomputable def A25_3 (Q : Value → AH → Prop) (t3 t11 t12 t13 : Value) (h : AH) : Prop := Pt Pr K 25 none (retV Pr 25 Q) 23 [3, 11, 12, 13] [.code (cc 25 15000), .code (cc 25 15001), .inBlock 1, .code (cc 25 3751), .inLoop (cc 25 468), .inBlock 0, .code (cc 25 15)] [] [t3, t11, t12, t13] h
theorem b25_0 {h : AH} {Q : Value → AH → Prop} {t0 : Value} (H :
 thn (biP .neq t0 (.pointer none)) fun v0 =>
 Br v0 (
 A25_1 Q t0 (I 0) h) (
 Q (I 0) h)
) : A25_0 Q t0 h := by intro e he; cases he; exact bF L25 (by kernel_rfl) H
theorem b25_1 {h : AH} {Q : Value → AH → Prop} {t0 t3 : Value} (H :
 thn (nilV t0) fun v0 =>
 thn (padd 1 v0) fun v1 =>
 thn (ld1 h v1) fun v2 =>
 thn (lenS v2) fun v3 =>
 A25_2 Q t3 v2 v3 (I 0) h
) : A25_1 Q t0 t3 h := by intro e he; cases he; exact bF L25 (by kernel_rfl) H
theorem b25_2 {h : AH} {Q : Value → AH → Prop} {t3 t11 t12 t13 : Value} (H :
 thn (biI .lss t13 t12) fun v0 =>
 Br v0 (
 A25_3 Q t3 t11 t12 t13 h) (
 Q t3 h)
) : A25_2 Q t3 t11 t12 t13 h := by intro e he; cases he; exact bF L25 (by kernel_rfl) H
theorem b25_3 {h : AH} {Q : Value → AH → Prop} {t3 t11 t12 t13 : Value} (H :
 thn (idxS 1 t11 t13) fun v0 =>
 thn (ld1 h v0) fun v1 =>
 thn (lenS v1) fun v2 =>
 thn (biI .add t3 v2) fun v3 =>
 thn (biI .add t13 (I 1)) fun v4 =>
 A25_2 Q v3 t11 t12 v4 h
) : A25_3 Q t3 t11 t12 t13 h := by intro e he; cases he; exact bF L25 (by kernel_rfl) H
theorem c25 {h : AH} {Q : Value → AH → Prop} {a0 : Value} (H : A25_0 Q a0 h) : Cl Pr K 25 [a0] h Q :=
  ok_enter (by kernel_rfl) (by kernel_rfl) (Eq.mp (by kernel_rfl) (H (fun i => ([a0] : List Value).getD i undef) rfl))

/-! ### 34 donjon/moesi.Valid: params 1, captured 0, results [tmp 2] -/
noncomputable def L34 : List (Option Nat × List Nat) := [(some 0, [0])]
noncomputable def A34_0 (Q : Value → AH → Prop) (t0 : Value) (h : AH) : Prop := Pt Pr K 34 none (retV Pr 34 Q) 9 [0] [.code (cc 34 2), .code (cc 34 3)] [] [t0] h
theorem b34_0 {h : AH} {Q : Value → AH → Prop} {t0 : Value} (H :
 Cl Pr K 60 [t0] h fun v0 h0 => -- donjon/moesi.is
 Br v0 (
 thn (biI .neq t0 (I 0)) fun v1 =>
 Q v1 h0) (
 Q (.bool false) h0)
) : A34_0 Q t0 h := by intro e he; cases he; exact bF L34 (by kernel_rfl) H
theorem c34 {h : AH} {Q : Value → AH → Prop} {a0 : Value} (H : A34_0 Q a0 h) : Cl Pr K 34 [a0] h Q :=
  ok_enter (by kernel_rfl) (by kernel_rfl) (Eq.mp (by kernel_rfl) (H (fun i => ([a0] : List Value).getD i undef) rfl))

/-! ### 36 (*donjon/donjonref13.Cache).Want: params 4, captured 0, results [tmp 8, tmp 9] -/
noncomputable def L36 : List (Option Nat × List Nat) := [(some 0, [0, 1, 2, 3]), (some 3, [0, 1, 2, 3]), (some 5, [0, 1, 2, 3]), (some 7, [0, 1, 2, 3]), (some 10, [0, 1, 2, 3, 10]), (some 12, [0, 1, 2, 3, 11]), (some 17, [0, 1, 2, 3, 11]), (some 21, [11, 12]), (some 14, [0, 1, 2, 3, 11])]
noncomputable def A36_0 (Q : Value → AH → Prop) (t0 t1 t2 t3 : Value) (h : AH) : Prop := Pt Pr K 36 none (retV Pr 36 Q) 137 [0, 1, 2, 3] [.code (cc 36 2), .code (cc 36 3)] [] [t0, t1, t2, t3] h
noncomputable def A36_1 (Q : Value → AH → Prop) (t0 t1 t2 t3 : Value) (h : AH) : Prop := Pt Pr K 36 none (retV Pr 36 Q) 137 [0, 1, 2, 3] [.code (cc 36 28), .code (cc 36 29), .code (cc 36 15)] [] [t0, t1, t2, t3] h
noncomputable def A36_2 (Q : Value → AH → Prop) (t0 t1 t2 t3 : Value) (h : AH) : Prop := Pt Pr K 36 none (retV Pr 36 Q) 137 [0, 1, 2, 3] [.code (cc 36 60), .code (cc 36 61), .code (cc 36 31)] [] [t0, t1, t2, t3] h
noncomputable def A36_3 (Q : Value → AH → Prop) (t0 t1 t2 t3 : Value) (h : AH) : Prop := Pt Pr K 36 none (retV Pr 36 Q) 137 [0, 1, 2, 3] [.code (cc 36 62), .code (cc 36 63)] [] [t0, t1, t2, t3] h
noncomputable def A36_4 (Q : Value → AH → Prop) (t0 t1 t2 t3 t10 : Value) (h : AH) : Prop := Pt Pr K 36 none (retV Pr 36 Q) 137 [0, 1, 2, 3, 10] [.code (cc 36 254), .code (cc 36 255)] [] [t0, t1, t2, t3, t10] h
noncomputable def A36_5 (Q : Value → AH → Prop) (t0 t1 t2 t3 t11 : Value) (h : AH) : Prop := Pt Pr K 36 none (retV Pr 36 Q) 137 [0, 1, 2, 3, 11] [.code (cc 36 8168), .code (cc 36 8169), .code (cc 36 4085), .code (cc 36 511)] [] [t0, t1, t2, t3, t11] h
noncomputable def A36_6 (Q : Value → AH → Prop) (t0 t1 t2 t3 t11 : Value) (h : AH) : Prop := Pt Pr K 36 none (retV Pr 36 Q) 137 [0, 1, 2, 3, 11] [.code (cc 36 1022), .code (cc 36 1023)] [] [t0, t1, t2, t3, t11] h
noncomputable def A36_7 (Q : Value → AH → Prop) (t11 t12 : Value) (h : AH) : Prop := Pt Pr K 36 none (retV Pr 36 Q) 137 [11, 12] [.code (cc 36 32762), .code (cc 36 8191)] [] [t11, t12] h
noncomputable def A36_8 (Q : Value → AH → Prop) (t0 t1 t2 t3 t11 : Value) (h : AH) : Prop := Pt Pr K 36 none (retV Pr 36 Q) 137 [0, 1, 2, 3, 11] [.code (cc 36 8170), .code (cc 36 8171), .code (cc 36 511)] [] [t0, t1, t2, t3, t11] h
theorem b36_0 {h : AH} {Q : Value → AH → Prop} {t0 t1 t2 t3 : Value} (H :
 thn (biI .lss t1 (I 0)) fun v0 =>
 Br v0 (
 Q (.tuple ⟨[(.slice none 0 0), (I 10)]⟩) h) (
 thn (nilV t0) fun v1 =>
 thn (padd 1 v1) fun v2 =>
 thn (ld1 h v2) fun v3 =>
 thn (biI .geq t1 v3) fun v4 =>
 Br v4 (
 Q (.tuple ⟨[(.slice none 0 0), (I 10)]⟩) h) (
 A36_1 Q t0 t1 t2 t3 h))
) : A36_0 Q t0 t1 t2 t3 h := by intro e he; cases he; exact bF L36 (by kernel_rfl) H
theorem b36_1 {h : AH} {Q : Value → AH → Prop} {t0 t1 t2 t3 : Value} (H :
 thn (nilV t0) fun v0 =>
 thn (padd 5 v0) fun v1 =>
 thn (ld1 h v1) fun v2 =>
 thn (biI .geq v2 (I 0)) fun v3 =>
 Br v3 (
 Q (.tuple ⟨[(.slice none 0 0), (I 17)]⟩) h) (
 A36_2 Q t0 t1 t2 t3 h)
) : A36_1 Q t0 t1 t2 t3 h := by intro e he; cases he; exact bF L36 (by kernel_rfl) H
theorem b36_2 {h : AH} {Q : Value → AH → Prop} {t0 t1 t2 t3 : Value} (H :
 thn (nilV t0) fun v0 =>
 thn (padd 7 v0) fun v1 =>
 thn (padd 0 v1) fun v2 =>
 thn (ld1 h v2) fun v3 =>
 thn (biI .eql v3 t1) fun v4 =>
 Br v4 (
 Q (.tuple ⟨[(.slice none 0 0), (I 16)]⟩) h) (
 A36_3 Q t0 t1 t2 t3 h)
) : A36_2 Q t0 t1 t2 t3 h := by intro e he; cases he; exact bF L36 (by kernel_rfl) H
theorem b36_3 {h : AH} {Q : Value → AH → Prop} {t0 t1 t2 t3 : Value} (H :
 Cl Pr K 61 [t0, t1] h fun v0 h0 => -- (*donjon/donjonref13.Cache).At
 thn (biI .geq v0 (I 0)) fun v1 =>
 Br v1 (
 thn (nilV t0) fun v2 =>
 thn (padd 4 v2) fun v3 =>
 thn (ld1 h0 v3) fun v4 =>
 thn (idxS 5 v4 v0) fun v5 =>
 thn (padd 1 v5) fun v6 =>
 thn (ld1 h0 v6) fun v7 =>
 Cl Pr K 62 [v7, t3] h0 fun v8 h8 => -- donjon/donjonref13.allows
 Br v8 (
 Q (.tuple ⟨[(.slice none 0 0), (I 13)]⟩) h8) (
 A36_4 Q t0 t1 t2 t3 v0 h8)) (
 thn (biI .lss v0 (I 0)) fun v2 =>
 Br v2 (
 Cl Pr K 63 [t0, t1] h0 fun v3 h3 => -- (*donjon/donjonref13.Cache).Victim
 thn (biI .geq v3 (I 0)) fun v4 =>
 Br v4 (
 A36_5 Q t0 t1 t2 t3 (.slice none 0 0) h3) (
 A36_6 Q t0 t1 t2 t3 (.slice none 0 0) h3)) (
 thn (nilV t0) fun v3 =>
 thn (padd 5 v3) fun v4 =>
 thn (stV h0 1 v4 t1) fun h5 =>
 thn (nilV t0) fun v6 =>
 thn (padd 6 v6) fun v7 =>
 thn (stV h5 1 v7 t3) fun h8 =>
 thn (nilV t0) fun v9 =>
 thn (padd 0 v9) fun v10 =>
 thn (ld1 h8 v10) fun v11 =>
 thn (fillL [(I 0), (I 0), (I 0), (I 0), (I 0), (I 0), (I 0), (.bool false), (I 0)] [(0, 1, (I 1)), (1, 1, v11), (2, 1, t1), (3, 1, t2)]) fun c12 =>
 alc h8 (.cells [(I 0), (I 0), (I 0), (I 0), (I 0), (I 0), (I 0), (.bool false), (I 0)] 26 (0, 0) true) fun p14 h13 =>
 thn (stV h13 9 (pt p14 0 0) (.agg ⟨c12⟩)) fun h15 =>
 Br t3 (
 A36_7 Q (.slice none 0 0) (pt p14 0 0) h15) (
 thn (ldN h15 9 (pt p14 0 0)) fun v16 =>
 thn (fillL [(I 0), (I 0), (I 0), (I 0), (I 0), (I 0), (I 0), (.bool false), (I 0)] [(0, 9, v16)]) fun l18 =>
 alcS h15 9 26 l18 1 1 fun s19 h17 =>
 thn (appV 9 72 26 h17 (.slice none 0 0) s19) fun r20 => (fun v21 h22 =>
 Q (.tuple ⟨[v21, (I 0)]⟩) h22) r20.1 r20.2)))
) : A36_3 Q t0 t1 t2 t3 h := by intro e he; cases he; exact bF L36 (by kernel_rfl) H
theorem b36_4 {h : AH} {Q : Value → AH → Prop} {t0 t1 t2 t3 t10 : Value} (H :
 thn (biI .lss t10 (I 0)) fun v0 =>
 Br v0 (
 Cl Pr K 63 [t0, t1] h fun v1 h1 => -- (*donjon/donjonref13.Cache).Victim
 thn (biI .geq v1 (I 0)) fun v2 =>
 Br v2 (
 A36_5 Q t0 t1 t2 t3 (.slice none 0 0) h1) (
 A36_6 Q t0 t1 t2 t3 (.slice none 0 0) h1)) (
 thn (nilV t0) fun v1 =>
 thn (padd 5 v1) fun v2 =>
 thn (stV h 1 v2 t1) fun h3 =>
 thn (nilV t0) fun v4 =>
 thn (padd 6 v4) fun v5 =>
 thn (stV h3 1 v5 t3) fun h6 =>
 thn (nilV t0) fun v7 =>
 thn (padd 0 v7) fun v8 =>
 thn (ld1 h6 v8) fun v9 =>
 thn (fillL [(I 0), (I 0), (I 0), (I 0), (I 0), (I 0), (I 0), (.bool false), (I 0)] [(0, 1, (I 1)), (1, 1, v9), (2, 1, t1), (3, 1, t2)]) fun c10 =>
 alc h6 (.cells [(I 0), (I 0), (I 0), (I 0), (I 0), (I 0), (I 0), (.bool false), (I 0)] 26 (0, 0) true) fun p12 h11 =>
 thn (stV h11 9 (pt p12 0 0) (.agg ⟨c10⟩)) fun h13 =>
 Br t3 (
 A36_7 Q (.slice none 0 0) (pt p12 0 0) h13) (
 thn (ldN h13 9 (pt p12 0 0)) fun v14 =>
 thn (fillL [(I 0), (I 0), (I 0), (I 0), (I 0), (I 0), (I 0), (.bool false), (I 0)] [(0, 9, v14)]) fun l16 =>
 alcS h13 9 26 l16 1 1 fun s17 h15 =>
 thn (appV 9 72 26 h15 (.slice none 0 0) s17) fun r18 => (fun v19 h20 =>
 Q (.tuple ⟨[v19, (I 0)]⟩) h20) r18.1 r18.2))
) : A36_4 Q t0 t1 t2 t3 t10 h := by intro e he; cases he; exact bF L36 (by kernel_rfl) H
theorem b36_5 {h : AH} {Q : Value → AH → Prop} {t0 t1 t2 t3 t11 : Value} (H :
 thn (nilV t0) fun v0 =>
 thn (padd 7 v0) fun v1 =>
 thn (padd 0 v1) fun v2 =>
 thn (ld1 h v2) fun v3 =>
 thn (biI .geq v3 (I 0)) fun v4 =>
 Br v4 (
 Q (.tuple ⟨[(.slice none 0 0), (I 11)]⟩) h) (
 A36_8 Q t0 t1 t2 t3 t11 h)
) : A36_5 Q t0 t1 t2 t3 t11 h := by intro e he; cases he; exact bF L36 (by kernel_rfl) H
theorem b36_6 {h : AH} {Q : Value → AH → Prop} {t0 t1 t2 t3 t11 : Value} (H :
 thn (nilV t0) fun v0 =>
 thn (padd 5 v0) fun v1 =>
 thn (stV h 1 v1 t1) fun h2 =>
 thn (nilV t0) fun v3 =>
 thn (padd 6 v3) fun v4 =>
 thn (stV h2 1 v4 t3) fun h5 =>
 thn (nilV t0) fun v6 =>
 thn (padd 0 v6) fun v7 =>
 thn (ld1 h5 v7) fun v8 =>
 thn (fillL [(I 0), (I 0), (I 0), (I 0), (I 0), (I 0), (I 0), (.bool false), (I 0)] [(0, 1, (I 1)), (1, 1, v8), (2, 1, t1), (3, 1, t2)]) fun c9 =>
 alc h5 (.cells [(I 0), (I 0), (I 0), (I 0), (I 0), (I 0), (I 0), (.bool false), (I 0)] 26 (0, 0) true) fun p11 h10 =>
 thn (stV h10 9 (pt p11 0 0) (.agg ⟨c9⟩)) fun h12 =>
 Br t3 (
 A36_7 Q t11 (pt p11 0 0) h12) (
 thn (ldN h12 9 (pt p11 0 0)) fun v13 =>
 thn (fillL [(I 0), (I 0), (I 0), (I 0), (I 0), (I 0), (I 0), (.bool false), (I 0)] [(0, 9, v13)]) fun l15 =>
 alcS h12 9 26 l15 1 1 fun s16 h14 =>
 thn (appV 9 72 26 h14 t11 s16) fun r17 => (fun v18 h19 =>
 Q (.tuple ⟨[v18, (I 0)]⟩) h19) r17.1 r17.2)
) : A36_6 Q t0 t1 t2 t3 t11 h := by intro e he; cases he; exact bF L36 (by kernel_rfl) H
theorem b36_7 {h : AH} {Q : Value → AH → Prop} {t11 t12 : Value} (H :
 thn (padd 0 t12) fun v0 =>
 thn (stV h 1 v0 (I 2)) fun h1 =>
 thn (ldN h1 9 t12) fun v2 =>
 thn (fillL [(I 0), (I 0), (I 0), (I 0), (I 0), (I 0), (I 0), (.bool false), (I 0)] [(0, 9, v2)]) fun l4 =>
 alcS h1 9 26 l4 1 1 fun s5 h3 =>
 thn (appV 9 72 26 h3 t11 s5) fun r6 => (fun v7 h8 =>
 Q (.tuple ⟨[v7, (I 0)]⟩) h8) r6.1 r6.2
) : A36_7 Q t11 t12 h := by intro e he; cases he; exact bF L36 (by kernel_rfl) H
theorem b36_8 {h : AH} {Q : Value → AH → Prop} {t0 t1 t2 t3 t11 : Value} (H :
 resv h 15 fun r1 h0 =>
 thn (nilV t0) fun v2 =>
 thn (padd 4 v2) fun v3 =>
 thn (ld1 h0 v3) fun v4 =>
 Cl Pr K 63 [t0, t1] h0 fun v5 h5 => -- (*donjon/donjonref13.Cache).Victim
 Cl Pr K 61 [t0, v5] h5 fun v6 h6 => -- (*donjon/donjonref13.Cache).At
 thn (idxS 5 v4 v6) fun v7 =>
 thn (ldN h6 5 v7) fun v8 =>
 thn (nilV t0) fun v9 =>
 thn (padd 7 v9) fun v10 =>
 thn (stV h6 5 v10 v8) fun h11 =>
(veq t0 t0 = true) ∧ (
(veq t0 t0 = true) ∧ (
(veq t0 t0 = true) ∧ (
(veq t0 t0 = true) ∧ (
(thn (nilV t0) fun v12 =>
 veq v12 v2 = true) ∧ (
(thn (nilV t0) fun v13 =>
 veq v13 v2 = true) ∧ (
(thn (padd 4 v2) fun v14 =>
 veq v14 v3 = true) ∧ (
(thn (padd 4 v2) fun v15 =>
 veq v15 v3 = true) ∧ (
(thn (ld1 h5 v3) fun v16 =>
 veq v16 v4 = true) ∧ (
(thn (ld1 h6 v3) fun v17 =>
 veq v17 v4 = true) ∧ (
(veq t0 t0 = true) ∧ (
 thn (nilV t0) fun v18 =>
 thn (padd 7 v18) fun v19 =>
 thn (padd 0 v19) fun v20 =>
 thn (ld1 h11 v20) fun v21 =>
 Cl Pr K 64 [t0, v21] h11 fun v22 h22 => -- (*donjon/donjonref13.Cache).drop
 resv h22 30 fun r24 h23 =>
 thn (nilV t0) fun v25 =>
 thn (padd 0 v25) fun v26 =>
 thn (ld1 h23 v26) fun v27 =>
 thn (nilV t0) fun v28 =>
 thn (padd 7 v28) fun v29 =>
 thn (padd 0 v29) fun v30 =>
 thn (ld1 h23 v30) fun v31 =>
 thn (nilV t0) fun v32 =>
 thn (padd 7 v32) fun v33 =>
 thn (padd 2 v33) fun v34 =>
 thn (ld1 h23 v34) fun v35 =>
 thn (nilV t0) fun v36 =>
 thn (padd 7 v36) fun v37 =>
 thn (padd 3 v37) fun v38 =>
 thn (ldN h23 2 v38) fun v39 =>
 thn (nilV t0) fun v40 =>
 thn (padd 7 v40) fun v41 =>
 thn (padd 1 v41) fun v42 =>
 thn (ld1 h23 v42) fun v43 =>
 thn (biI .geq v43 (I 3)) fun v44 =>
 thn (fillL [(I 0), (I 0), (I 0), (I 0), (I 0), (I 0), (I 0), (.bool false), (I 0)] [(0, 1, (I 3)), (1, 1, v27), (2, 1, v31), (3, 1, v35), (5, 2, v39), (7, 1, v44)]) fun c45 =>
 thn (fillL [(I 0), (I 0), (I 0), (I 0), (I 0), (I 0), (I 0), (.bool false), (I 0)] [(0, 9, (.agg ⟨c45⟩))]) fun l47 =>
 alcSAt h23 (r24 + 27) 9 26 l47 1 1 fun s48 h46 =>
 thn (appV 9 72 26 h46 t11 s48) fun r49 => (fun v50 h51 =>
 thn (nilV t0) fun v52 =>
 thn (padd 5 v52) fun v53 =>
 thn (stV h51 1 v53 t1) fun h54 =>
 thn (nilV t0) fun v55 =>
 thn (padd 6 v55) fun v56 =>
 thn (stV h54 1 v56 t3) fun h57 =>
 thn (nilV t0) fun v58 =>
 thn (padd 0 v58) fun v59 =>
 thn (ld1 h57 v59) fun v60 =>
 thn (fillL [(I 0), (I 0), (I 0), (I 0), (I 0), (I 0), (I 0), (.bool false), (I 0)] [(0, 1, (I 1)), (1, 1, v60), (2, 1, t1), (3, 1, t2)]) fun c61 =>
 alc h57 (.cells [(I 0), (I 0), (I 0), (I 0), (I 0), (I 0), (I 0), (.bool false), (I 0)] 26 (0, 0) true) fun p63 h62 =>
 thn (stV h62 9 (pt p63 0 0) (.agg ⟨c61⟩)) fun h64 =>
 Br t3 (
 A36_7 Q v50 (pt p63 0 0) h64) (
 thn (ldN h64 9 (pt p63 0 0)) fun v65 =>
 thn (fillL [(I 0), (I 0), (I 0), (I 0), (I 0), (I 0), (I 0), (.bool false), (I 0)] [(0, 9, v65)]) fun l67 =>
 alcS h64 9 26 l67 1 1 fun s68 h66 =>
 thn (appV 9 72 26 h66 v50 s68) fun r69 => (fun v70 h71 =>
 Q (.tuple ⟨[v70, (I 0)]⟩) h71) r69.1 r69.2)) r49.1 r49.2)))))))))))
) : A36_8 Q t0 t1 t2 t3 t11 h := by intro e he; cases he; exact bF L36 (by kernel_rfl) H
theorem c36 {h : AH} {Q : Value → AH → Prop} {a0 a1 a2 a3 : Value} (H : A36_0 Q a0 a1 a2 a3 h) : Cl Pr K 36 [a0, a1, a2, a3] h Q :=
  ok_enter (by kernel_rfl) (by kernel_rfl) (Eq.mp (by kernel_rfl) (H (fun i => ([a0, a1, a2, a3] : List Value).getD i undef) rfl))

/-! ### 37 (*donjon/donjonref13.Cache).Take: params 2, captured 0, results [tmp 4, tmp 5] -/
noncomputable def L37 : List (Option Nat × List Nat) := [(some 0, [0, 1]), (some 3, [0, 3]), (some 5, [0, 3]), (some 7, [0, 3]), (some 11, [0, 3, 6]), (some 9, [0]), (some 12, [0, 3, 6]), (some 24, [0, 3, 6]), (some 14, [0, 3, 6]), (some 26, [0, 3, 6]), (some 27, [0, 3, 6]), (some 34, [0, 3]), (some 15, [0]), (some 17, [0, 3, 6]), (some 31, [0, 3, 9]), (some 32, [0, 8, 9]), (some 35, [0, 3]), (some 19, [0, 3, 6, 7]), (some 20, [0, 3, 7]), (some 22, [0, 3])]
noncomputable def A37_0 (Q : Value → AH → Prop) (t0 t1 : Value) (h : AH) : Prop := Pt Pr K 37 none (retV Pr 37 Q) 183 [0, 1] [.code (cc 37 2), .code (cc 37 3)] [] [t0, t1] h
noncomputable def A37_1 (Q : Value → AH → Prop) (t0 t3 : Value) (h : AH) : Prop := Pt Pr K 37 none (retV Pr 37 Q) 183 [0, 3] [.code (cc 37 28), .code (cc 37 29), .code (cc 37 15)] [] [t0, t3] h
noncomputable def A37_2 (Q : Value → AH → Prop) (t0 t3 : Value) (h : AH) : Prop := Pt Pr K 37 none (retV Pr 37 Q) 183 [0, 3] [.code (cc 37 30), .code (cc 37 31)] [] [t0, t3] h
noncomputable def A37_3 (Q : Value → AH → Prop) (t0 t3 : Value) (h : AH) : Prop := Pt Pr K 37 none (retV Pr 37 Q) 183 [0, 3] [.code (cc 37 1000), .code (cc 37 1001), .code (cc 37 501), .code (cc 37 63)] [] [t0, t3] h
noncomputable def A37_4 (Q : Value → AH → Prop) (t0 t3 t6 : Value) (h : AH) : Prop := Pt Pr K 37 none (retV Pr 37 Q) 183 [0, 3, 6] [.code (cc 37 252), .code (cc 37 253), .code (cc 37 127)] [] [t0, t3, t6] h
noncomputable def A37_5 (Q : Value → AH → Prop) (t0 : Value) (h : AH) : Prop := Pt Pr K 37 none (retV Pr 37 Q) 183 [0] [.code (cc 37 1002), .code (cc 37 1003), .code (cc 37 63)] [] [t0] h
noncomputable def A37_6 (Q : Value → AH → Prop) (t0 t3 t6 : Value) (h : AH) : Prop := Pt Pr K 37 none (retV Pr 37 Q) 183 [0, 3, 6] [.code (cc 37 2024), .code (cc 37 2025), .code (cc 37 1013), .code (cc 37 127)] [] [t0, t3, t6] h
noncomputable def A37_7 (Q : Value → AH → Prop) (t0 t3 t6 : Value) (h : AH) : Prop := Pt Pr K 37 none (retV Pr 37 Q) 183 [0, 3, 6] [.code (cc 37 508), .code (cc 37 509), .code (cc 37 255)] [] [t0, t3, t6] h
noncomputable def A37_8 (Q : Value → AH → Prop) (t0 t3 t6 : Value) (h : AH) : Prop := Pt Pr K 37 none (retV Pr 37 Q) 183 [0, 3, 6] [.code (cc 37 4052), .code (cc 37 4053), .code (cc 37 2027), .code (cc 37 127)] [] [t0, t3, t6] h
noncomputable def A37_9 (Q : Value → AH → Prop) (t0 t3 t6 : Value) (h : AH) : Prop := Pt Pr K 37 none (retV Pr 37 Q) 183 [0, 3, 6] [.code (cc 37 1020), .code (cc 37 1021), .code (cc 37 511)] [] [t0, t3, t6] h
noncomputable def A37_10 (Q : Value → AH → Prop) (t0 t3 t6 : Value) (h : AH) : Prop := Pt Pr K 37 none (retV Pr 37 Q) 183 [0, 3, 6] [.code (cc 37 4084), .code (cc 37 4085), .code (cc 37 511)] [] [t0, t3, t6] h
noncomputable def A37_11 (Q : Value → AH → Prop) (t0 t3 : Value) (h : AH) : Prop := Pt Pr K 37 none (retV Pr 37 Q) 183 [0, 3] [.code (cc 37 2044), .code (cc 37 2045), .code (cc 37 1023)] [] [t0, t3] h
noncomputable def A37_12 (Q : Value → AH → Prop) (t0 : Value) (h : AH) : Prop := Pt Pr K 37 none (retV Pr 37 Q) 183 [0] [.code (cc 37 16212), .code (cc 37 16213), .code (cc 37 2027), .code (cc 37 127)] [] [t0] h
noncomputable def A37_13 (Q : Value → AH → Prop) (t0 t3 t6 : Value) (h : AH) : Prop := Pt Pr K 37 none (retV Pr 37 Q) 183 [0, 3, 6] [.code (cc 37 4054), .code (cc 37 4055), .code (cc 37 127)] [] [t0, t3, t6] h
noncomputable def A37_14 (Q : Value → AH → Prop) (t0 t3 t9 : Value) (h : AH) : Prop := Pt Pr K 37 none (retV Pr 37 Q) 183 [0, 3, 9] [.code (cc 37 130746), .code (cc 37 32687), .code (cc 37 511)] [] [t0, t3, t9] h
noncomputable def A37_15 (Q : Value → AH → Prop) (t0 t8 t9 : Value) (h : AH) : Prop := Pt Pr K 37 none (retV Pr 37 Q) 183 [0, 8, 9] [.code (cc 37 130747), .code (cc 37 32687), .code (cc 37 511)] [] [t0, t8, t9] h
noncomputable def A37_16 (Q : Value → AH → Prop) (t0 t3 : Value) (h : AH) : Prop := Pt Pr K 37 none (retV Pr 37 Q) 183 [0, 3] [.code (cc 37 8180), .code (cc 37 8181), .code (cc 37 1023)] [] [t0, t3] h
noncomputable def A37_17 (Q : Value → AH → Prop) (t0 t3 t6 t7 : Value) (h : AH) : Prop := Pt Pr K 37 none (retV Pr 37 Q) 183 [0, 3, 6, 7] [.code (cc 37 32442), .code (cc 37 8111), .code (cc 37 127)] [] [t0, t3, t6, t7] h
noncomputable def A37_18 (Q : Value → AH → Prop) (t0 t3 t7 : Value) (h : AH) : Prop := Pt Pr K 37 none (retV Pr 37 Q) 183 [0, 3, 7] [.code (cc 37 32444), .code (cc 37 32445), .code (cc 37 16223), .code (cc 37 127)] [] [t0, t3, t7] h
noncomputable def A37_19 (Q : Value → AH → Prop) (t0 t3 : Value) (h : AH) : Prop := Pt Pr K 37 none (retV Pr 37 Q) 183 [0, 3] [.code (cc 37 32446), .code (cc 37 32447), .code (cc 37 127)] [] [t0, t3] h
theorem b37_0 {h : AH} {Q : Value → AH → Prop} {t0 t1 : Value} (H :
 thn (blkOf 26 t1) fun b1 =>
 alc h b1 fun p2 h0 =>
 thn (padd 0 (pt p2 0 0)) fun v3 =>
 thn (ld1 h0 v3) fun v4 =>
 thn (biI .neq v4 (I 8)) fun v5 =>
 Br v5 (
 thn (padd 0 (pt p2 0 0)) fun v6 =>
 thn (ld1 h0 v6) fun v7 =>
 thn (biI .neq v7 (I 9)) fun v8 =>
 Br v8 (
 thn (padd 0 (pt p2 0 0)) fun v9 =>
 thn (ld1 h0 v9) fun v10 =>
 thn (biI .neq v10 (I 10)) fun v11 =>
 Br v11 (
 thn (padd 0 (pt p2 0 0)) fun v12 =>
 thn (ld1 h0 v12) fun v13 =>
 thn (biI .neq v13 (I 11)) fun v14 =>
 Br v14 (
 Q (.tuple ⟨[(.slice none 0 0), (I 15)]⟩) h0) (
 A37_1 Q t0 (pt p2 0 0) h0)) (
 resv h0 12 fun r13 h12 =>
 thn (padd 2 (pt p2 0 0)) fun v14 =>
 thn (ld1 h12 v14) fun v15 =>
 thn (biI .lss v15 (I 0)) fun v16 =>
 Br v16 (
 Q (.tuple ⟨[(.slice none 0 0), (I 10)]⟩) h12) (
 thn (padd 2 (pt p2 0 0)) fun v17 =>
 thn (ld1 h12 v17) fun v18 =>
 thn (nilV t0) fun v19 =>
 thn (padd 1 v19) fun v20 =>
 thn (ld1 h12 v20) fun v21 =>
 thn (biI .geq v18 v21) fun v22 =>
 Br v22 (
 Q (.tuple ⟨[(.slice none 0 0), (I 10)]⟩) h12) (
 A37_2 Q t0 (pt p2 0 0) h12)))) (
 resv h0 12 fun r10 h9 =>
 thn (padd 2 (pt p2 0 0)) fun v11 =>
 thn (ld1 h9 v11) fun v12 =>
 thn (biI .lss v12 (I 0)) fun v13 =>
 Br v13 (
 Q (.tuple ⟨[(.slice none 0 0), (I 10)]⟩) h9) (
 thn (padd 2 (pt p2 0 0)) fun v14 =>
 thn (ld1 h9 v14) fun v15 =>
 thn (nilV t0) fun v16 =>
 thn (padd 1 v16) fun v17 =>
 thn (ld1 h9 v17) fun v18 =>
 thn (biI .geq v15 v18) fun v19 =>
 Br v19 (
 Q (.tuple ⟨[(.slice none 0 0), (I 10)]⟩) h9) (
 A37_2 Q t0 (pt p2 0 0) h9)))) (
 resv h0 12 fun r7 h6 =>
 thn (padd 2 (pt p2 0 0)) fun v8 =>
 thn (ld1 h6 v8) fun v9 =>
 thn (biI .lss v9 (I 0)) fun v10 =>
 Br v10 (
 Q (.tuple ⟨[(.slice none 0 0), (I 10)]⟩) h6) (
 thn (padd 2 (pt p2 0 0)) fun v11 =>
 thn (ld1 h6 v11) fun v12 =>
 thn (nilV t0) fun v13 =>
 thn (padd 1 v13) fun v14 =>
 thn (ld1 h6 v14) fun v15 =>
 thn (biI .geq v12 v15) fun v16 =>
 Br v16 (
 Q (.tuple ⟨[(.slice none 0 0), (I 10)]⟩) h6) (
 A37_2 Q t0 (pt p2 0 0) h6)))
) : A37_0 Q t0 t1 h := by intro e he; cases he; exact bF L37 (by kernel_rfl) H
theorem b37_1 {h : AH} {Q : Value → AH → Prop} {t0 t3 : Value} (H :
 resv h 12 fun r1 h0 =>
 thn (padd 2 t3) fun v2 =>
 thn (ld1 h0 v2) fun v3 =>
 thn (biI .lss v3 (I 0)) fun v4 =>
 Br v4 (
 Q (.tuple ⟨[(.slice none 0 0), (I 10)]⟩) h0) (
 thn (padd 2 t3) fun v5 =>
 thn (ld1 h0 v5) fun v6 =>
 thn (nilV t0) fun v7 =>
 thn (padd 1 v7) fun v8 =>
 thn (ld1 h0 v8) fun v9 =>
 thn (biI .geq v6 v9) fun v10 =>
 Br v10 (
 Q (.tuple ⟨[(.slice none 0 0), (I 10)]⟩) h0) (
 A37_2 Q t0 t3 h0))
) : A37_1 Q t0 t3 h := by intro e he; cases he; exact bF L37 (by kernel_rfl) H
theorem b37_2 {h : AH} {Q : Value → AH → Prop} {t0 t3 : Value} (H :
 thn (padd 2 t3) fun v0 =>
 thn (ld1 h v0) fun v1 =>
 Cl Pr K 61 [t0, v1] h fun v2 h2 => -- (*donjon/donjonref13.Cache).At
 thn (padd 0 t3) fun v3 =>
 thn (ld1 h2 v3) fun v4 =>
 thn (biI .eql v4 (I 10)) fun v5 =>
 Br v5 (
 A37_3 Q t0 t3 h2) (
 A37_4 Q t0 t3 v2 h2)
) : A37_2 Q t0 t3 h := by intro e he; cases he; exact bF L37 (by kernel_rfl) H
theorem b37_3 {h : AH} {Q : Value → AH → Prop} {t0 t3 : Value} (H :
 resv h 8 fun r1 h0 =>
 thn (nilV t0) fun v2 =>
 thn (padd 7 v2) fun v3 =>
 thn (padd 0 v3) fun v4 =>
 thn (ld1 h0 v4) fun v5 =>
 thn (padd 2 t3) fun v6 =>
 thn (ld1 h0 v6) fun v7 =>
 thn (biI .neq v5 v7) fun v8 =>
 Br v8 (
 Q (.tuple ⟨[(.slice none 0 0), (I 12)]⟩) h0) (
 A37_5 Q t0 h0)
) : A37_3 Q t0 t3 h := by intro e he; cases he; exact bF L37 (by kernel_rfl) H
theorem b37_4 {h : AH} {Q : Value → AH → Prop} {t0 t3 t6 : Value} (H :
 thn (padd 0 t3) fun v0 =>
 thn (ld1 h v0) fun v1 =>
 thn (biI .neq v1 (I 11)) fun v2 =>
 Br v2 (
 A37_6 Q t0 t3 t6 h) (
 A37_7 Q t0 t3 t6 h)
) : A37_4 Q t0 t3 t6 h := by intro e he; cases he; exact bF L37 (by kernel_rfl) H
theorem b37_5 {h : AH} {Q : Value → AH → Prop} {t0 : Value} (H :
 thn (fillL [(I 0), (I 0), (I 0), (I 0), (I 0)] [(0, 1, (I (-1)))]) fun c0 =>
 thn (nilV t0) fun v1 =>
 thn (padd 7 v1) fun v2 =>
 thn (stV h 5 v2 (.agg ⟨c0⟩)) fun h3 =>
 Q (.tuple ⟨[(.slice none 0 0), (I 0)]⟩) h3
) : A37_5 Q t0 h := by intro e he; cases he; exact bF L37 (by kernel_rfl) H
theorem b37_6 {h : AH} {Q : Value → AH → Prop} {t0 t3 t6 : Value} (H :
 resv h 7 fun r1 h0 =>
 thn (nilV t0) fun v2 =>
 thn (padd 5 v2) fun v3 =>
 thn (ld1 h0 v3) fun v4 =>
 thn (padd 2 t3) fun v5 =>
 thn (ld1 h0 v5) fun v6 =>
 thn (biI .neq v4 v6) fun v7 =>
 Br v7 (
 Q (.tuple ⟨[(.slice none 0 0), (I 16)]⟩) h0) (
 A37_8 Q t0 t3 t6 h0)
) : A37_6 Q t0 t3 t6 h := by intro e he; cases he; exact bF L37 (by kernel_rfl) H
theorem b37_7 {h : AH} {Q : Value → AH → Prop} {t0 t3 t6 : Value} (H :
 thn (padd 4 t3) fun v0 =>
 thn (ld1 h v0) fun v1 =>
 thn (biI .neq v1 (I 0)) fun v2 =>
 Br v2 (
 thn (padd 4 t3) fun v3 =>
 thn (ld1 h v3) fun v4 =>
 thn (biI .neq v4 (I 1)) fun v5 =>
 Br v5 (
 Q (.tuple ⟨[(.slice none 0 0), (I 10)]⟩) h) (
 A37_9 Q t0 t3 t6 h)) (
 thn (biI .geq t6 (I 0)) fun v3 =>
 Br v3 (
 A37_10 Q t0 t3 t6 h) (
 A37_11 Q t0 t3 h))
) : A37_7 Q t0 t3 t6 h := by intro e he; cases he; exact bF L37 (by kernel_rfl) H
theorem b37_8 {h : AH} {Q : Value → AH → Prop} {t0 t3 t6 : Value} (H :
 thn (padd 0 t3) fun v0 =>
 thn (ld1 h v0) fun v1 =>
 thn (biI .eql v1 (I 9)) fun v2 =>
 Br v2 (
 A37_12 Q t0 h) (
 A37_13 Q t0 t3 t6 h)
) : A37_8 Q t0 t3 t6 h := by intro e he; cases he; exact bF L37 (by kernel_rfl) H
theorem b37_9 {h : AH} {Q : Value → AH → Prop} {t0 t3 t6 : Value} (H :
 thn (biI .geq t6 (I 0)) fun v0 =>
 Br v0 (
 A37_10 Q t0 t3 t6 h) (
 A37_11 Q t0 t3 h)
) : A37_9 Q t0 t3 t6 h := by intro e he; cases he; exact bF L37 (by kernel_rfl) H
theorem b37_10 {h : AH} {Q : Value → AH → Prop} {t0 t3 t6 : Value} (H :
 thn (nilV t0) fun v0 =>
 thn (padd 4 v0) fun v1 =>
 thn (ld1 h v1) fun v2 =>
 thn (idxS 5 v2 t6) fun v3 =>
 thn (ldN h 5 v3) fun v4 =>
 alc h (.cells [(I 0), (I 0), (I 0), (I 0), (I 0)] 99 (0, 0) true) fun p6 h5 =>
 thn (stV h5 5 (pt p6 0 0) v4) fun h7 =>
 thn (ldN h7 5 (pt p6 0 0)) fun v8 =>
 thn (ldN h7 9 t3) fun v9 =>
 Cl Pr K 66 [t0, v8, v9] h7 fun v10 h10 => -- (*donjon/donjonref13.Cache).probe
 thn (extV 0 v10) fun v11 =>
 thn (extV 1 v10) fun v12 =>
 alc h10 (.cells [(I 0), (I 0), (I 0), (I 0), (I 0), (I 0), (I 0), (.bool false), (I 0)] 26 (0, 0) true) fun p14 h13 =>
 thn (stV h13 9 (pt p14 0 0) v11) fun h15 =>
 thn (padd 1 (pt p6 0 0)) fun v16 =>
 thn (stV h15 1 v16 v12) fun h17 =>
 thn (biI .eql v12 (I 0)) fun v18 =>
 Br v18 (
 A37_14 Q t0 t3 (pt p14 0 0) h17) (
 A37_15 Q t0 (pt p6 0 0) (pt p14 0 0) h17)
) : A37_10 Q t0 t3 t6 h := by intro e he; cases he; exact bF L37 (by kernel_rfl) H
theorem b37_11 {h : AH} {Q : Value → AH → Prop} {t0 t3 : Value} (H :
 resv h 8 fun r1 h0 =>
 thn (nilV t0) fun v2 =>
 thn (padd 7 v2) fun v3 =>
 thn (padd 0 v3) fun v4 =>
 thn (ld1 h0 v4) fun v5 =>
 thn (padd 2 t3) fun v6 =>
 thn (ld1 h0 v6) fun v7 =>
 thn (biI .eql v5 v7) fun v8 =>
 Br v8 (
 A37_16 Q t0 t3 h0) (
 resv h0 10 fun r10 h9 =>
 thn (nilV t0) fun v11 =>
 thn (padd 0 v11) fun v12 =>
 thn (ld1 h9 v12) fun v13 =>
 thn (padd 2 t3) fun v14 =>
 thn (ld1 h9 v14) fun v15 =>
 thn (fillL [(I 0), (I 0), (I 0), (I 0), (I 0), (I 0), (I 0), (.bool false), (I 0)] [(0, 1, (I 5)), (1, 1, v13), (2, 1, v15)]) fun c16 =>
 thn (fillL [(I 0), (I 0), (I 0), (I 0), (I 0), (I 0), (I 0), (.bool false), (I 0)] [(0, 9, (.agg ⟨c16⟩))]) fun l18 =>
 alcSAt h9 (r10 + 7) 9 26 l18 1 1 fun s19 h17 =>
 Q (.tuple ⟨[s19, (I 0)]⟩) h17)
) : A37_11 Q t0 t3 h := by intro e he; cases he; exact bF L37 (by kernel_rfl) H
theorem b37_12 {h : AH} {Q : Value → AH → Prop} {t0 : Value} (H :
 thn (nilV t0) fun v0 =>
 thn (padd 5 v0) fun v1 =>
 thn (stV h 1 v1 (I (-1))) fun h2 =>
 Q (.tuple ⟨[(.slice none 0 0), (I 0)]⟩) h2
) : A37_12 Q t0 h := by intro e he; cases he; exact bF L37 (by kernel_rfl) H
theorem b37_13 {h : AH} {Q : Value → AH → Prop} {t0 t3 t6 : Value} (H :
 thn (padd 2 t3) fun v0 =>
 thn (ld1 h v0) fun v1 =>
 thn (padd 4 t3) fun v2 =>
 thn (ld1 h v2) fun v3 =>
 thn (padd 3 t3) fun v4 =>
 thn (ld1 h v4) fun v5 =>
 thn (padd 5 t3) fun v6 =>
 thn (ldN h 2 v6) fun v7 =>
 thn (fillL [(I 0), (I 0), (I 0), (I 0), (I 0)] [(0, 1, v1), (1, 1, v3), (2, 1, v5), (3, 2, v7)]) fun c8 =>
 alc h (.cells [(I 0), (I 0), (I 0), (I 0), (I 0)] 99 (0, 0) true) fun p10 h9 =>
 thn (stV h9 5 (pt p10 0 0) (.agg ⟨c8⟩)) fun h11 =>
 thn (biI .geq t6 (I 0)) fun v12 =>
 Br v12 (
 A37_17 Q t0 t3 t6 (pt p10 0 0) h11) (
 A37_18 Q t0 t3 (pt p10 0 0) h11)
) : A37_13 Q t0 t3 t6 h := by intro e he; cases he; exact bF L37 (by kernel_rfl) H
theorem b37_14 {h : AH} {Q : Value → AH → Prop} {t0 t3 t9 : Value} (H :
 thn (padd 2 t3) fun v0 =>
 thn (ld1 h v0) fun v1 =>
 Cl Pr K 64 [t0, v1] h fun v2 h2 => -- (*donjon/donjonref13.Cache).drop
 thn (ldN h2 9 t9) fun v3 =>
 thn (fillL [(I 0), (I 0), (I 0), (I 0), (I 0), (I 0), (I 0), (.bool false), (I 0)] [(0, 9, v3)]) fun l5 =>
 alcS h2 9 26 l5 1 1 fun s6 h4 =>
 Q (.tuple ⟨[s6, (I 0)]⟩) h4
) : A37_14 Q t0 t3 t9 h := by intro e he; cases he; exact bF L37 (by kernel_rfl) H
theorem b37_15 {h : AH} {Q : Value → AH → Prop} {t0 t8 t9 : Value} (H :
 thn (ldN h 5 t8) fun v0 =>
 Cl Pr K 65 [t0, v0] h fun v1 h1 => -- (*donjon/donjonref13.Cache).put
 thn (ldN h1 9 t9) fun v2 =>
 thn (fillL [(I 0), (I 0), (I 0), (I 0), (I 0), (I 0), (I 0), (.bool false), (I 0)] [(0, 9, v2)]) fun l4 =>
 alcS h1 9 26 l4 1 1 fun s5 h3 =>
 Q (.tuple ⟨[s5, (I 0)]⟩) h3
) : A37_15 Q t0 t8 t9 h := by intro e he; cases he; exact bF L37 (by kernel_rfl) H
theorem b37_16 {h : AH} {Q : Value → AH → Prop} {t0 t3 : Value} (H :
 resv h 13 fun r1 h0 =>
 thn (nilV t0) fun v2 =>
 thn (padd 7 v2) fun v3 =>
 thn (ldN h0 5 v3) fun v4 =>
 thn (ldN h0 9 t3) fun v5 =>
 Cl Pr K 66 [t0, v4, v5] h0 fun v6 h6 => -- (*donjon/donjonref13.Cache).probe
 thn (extV 0 v6) fun v7 =>
 thn (extV 1 v6) fun v8 =>
 alcAt h6 (r1 + 10) (.cells [(I 0), (I 0), (I 0), (I 0), (I 0), (I 0), (I 0), (.bool false), (I 0)] 26 (0, 0) true) fun p10 h9 =>
 thn (stV h9 9 (pt p10 0 0) v7) fun h11 =>
(thn (extV 1 v6) fun v12 =>
 veq v12 v8 = true) ∧ (
 thn (nilV t0) fun v13 =>
 thn (padd 7 v13) fun v14 =>
 thn (padd 1 v14) fun v15 =>
 thn (stV h11 1 v15 v8) fun h16 =>
 thn (ldN h16 9 (pt p10 0 0)) fun v17 =>
 thn (fillL [(I 0), (I 0), (I 0), (I 0), (I 0), (I 0), (I 0), (.bool false), (I 0)] [(0, 9, v17)]) fun l19 =>
 alcS h16 9 26 l19 1 1 fun s20 h18 =>
 Q (.tuple ⟨[s20, (I 0)]⟩) h18)
) : A37_16 Q t0 t3 h := by intro e he; cases he; exact bF L37 (by kernel_rfl) H
theorem b37_17 {h : AH} {Q : Value → AH → Prop} {t0 t3 t6 t7 : Value} (H :
 thn (nilV t0) fun v0 =>
 thn (padd 4 v0) fun v1 =>
 thn (ld1 h v1) fun v2 =>
 thn (idxS 5 v2 t6) fun v3 =>
 thn (padd 3 v3) fun v4 =>
 thn (ldN h 2 v4) fun v5 =>
 thn (padd 3 t7) fun v6 =>
 thn (stV h 2 v6 v5) fun h7 =>
 thn (ldN h7 5 t7) fun v8 =>
 Cl Pr K 65 [t0, v8] h7 fun v9 h9 => -- (*donjon/donjonref13.Cache).put
 thn (unV .not v9) fun v10 =>
 Br v10 (
 Q (.tuple ⟨[(.slice none 0 0), (I 11)]⟩) h9) (
 A37_19 Q t0 t3 h9)
) : A37_17 Q t0 t3 t6 t7 h := by intro e he; cases he; exact bF L37 (by kernel_rfl) H
theorem b37_18 {h : AH} {Q : Value → AH → Prop} {t0 t3 t7 : Value} (H :
 thn (ldN h 5 t7) fun v0 =>
 Cl Pr K 65 [t0, v0] h fun v1 h1 => -- (*donjon/donjonref13.Cache).put
 thn (unV .not v1) fun v2 =>
 Br v2 (
 Q (.tuple ⟨[(.slice none 0 0), (I 11)]⟩) h1) (
 A37_19 Q t0 t3 h1)
) : A37_18 Q t0 t3 t7 h := by intro e he; cases he; exact bF L37 (by kernel_rfl) H
theorem b37_19 {h : AH} {Q : Value → AH → Prop} {t0 t3 : Value} (H :
 thn (nilV t0) fun v0 =>
 thn (padd 5 v0) fun v1 =>
 thn (stV h 1 v1 (I (-1))) fun h2 =>
 resv h2 10 fun r4 h3 =>
 thn (nilV t0) fun v5 =>
 thn (padd 0 v5) fun v6 =>
 thn (ld1 h3 v6) fun v7 =>
 thn (padd 2 t3) fun v8 =>
 thn (ld1 h3 v8) fun v9 =>
 thn (fillL [(I 0), (I 0), (I 0), (I 0), (I 0), (I 0), (I 0), (.bool false), (I 0)] [(0, 1, (I 4)), (1, 1, v7), (2, 1, v9)]) fun c10 =>
 thn (fillL [(I 0), (I 0), (I 0), (I 0), (I 0), (I 0), (I 0), (.bool false), (I 0)] [(0, 9, (.agg ⟨c10⟩))]) fun l12 =>
 alcSAt h3 (r4 + 7) 9 26 l12 1 1 fun s13 h11 =>
 Q (.tuple ⟨[s13, (I 0)]⟩) h11
) : A37_19 Q t0 t3 h := by intro e he; cases he; exact bF L37 (by kernel_rfl) H
theorem c37 {h : AH} {Q : Value → AH → Prop} {a0 a1 : Value} (H : A37_0 Q a0 a1 h) : Cl Pr K 37 [a0, a1] h Q :=
  ok_enter (by kernel_rfl) (by kernel_rfl) (Eq.mp (by kernel_rfl) (H (fun i => ([a0, a1] : List Value).getD i undef) rfl))

/-! ### 38 (*donjon/donjonref13.Cache).Use: params 6, captured 0, results [tmp 12, tmp 13] -/
noncomputable def L38 : List (Option Nat × List Nat) := [(some 0, [0, 1, 2, 3, 4, 5]), (some 3, [0, 1, 2, 3, 4, 5]), (some 5, [0, 1, 2, 4, 5]), (some 8, [0, 2, 5, 14, 15]), (some 10, [0, 2, 14])]
noncomputable def A38_0 (Q : Value → AH → Prop) (t0 t1 t2 t3 t4 t5 : Value) (h : AH) : Prop := Pt Pr K 38 none (retV Pr 38 Q) 63 [0, 1, 2, 3, 4, 5] [.code (cc 38 2), .code (cc 38 3)] [] [t0, t1, t2, t3, t4, t5] h
noncomputable def A38_1 (Q : Value → AH → Prop) (t0 t1 t2 t3 t4 t5 : Value) (h : AH) : Prop := Pt Pr K 38 none (retV Pr 38 Q) 63 [0, 1, 2, 3, 4, 5] [.code (cc 38 28), .code (cc 38 29), .code (cc 38 15)] [] [t0, t1, t2, t3, t4, t5] h
noncomputable def A38_2 (Q : Value → AH → Prop) (t0 t1 t2 t4 t5 : Value) (h : AH) : Prop := Pt Pr K 38 none (retV Pr 38 Q) 63 [0, 1, 2, 4, 5] [.code (cc 38 30), .code (cc 38 31)] [] [t0, t1, t2, t4, t5] h
noncomputable def A38_3 (Q : Value → AH → Prop) (t0 t2 t5 t14 t15 : Value) (h : AH) : Prop := Pt Pr K 38 none (retV Pr 38 Q) 63 [0, 2, 5, 14, 15] [.code (cc 38 1012), .code (cc 38 1013), .code (cc 38 127)] [] [t0, t2, t5, t14, t15] h
noncomputable def A38_4 (Q : Value → AH → Prop) (t0 t2 t14 : Value) (h : AH) : Prop := Pt Pr K 38 none (retV Pr 38 Q) 63 [0, 2, 14] [.code (cc 38 507), .code (cc 38 127)] [] [t0, t2, t14] h
theorem b38_0 {h : AH} {Q : Value → AH → Prop} {t0 t1 t2 t3 t4 t5 : Value} (H :
 thn (biI .lss t1 (I 0)) fun v0 =>
 Br v0 (
 Q (.tuple ⟨[(I 0), (I 10)]⟩) h) (
 thn (nilV t0) fun v1 =>
 thn (padd 1 v1) fun v2 =>
 thn (ld1 h v2) fun v3 =>
 thn (biI .geq t1 v3) fun v4 =>
 Br v4 (
 Q (.tuple ⟨[(I 0), (I 10)]⟩) h) (
 thn (biI .lss t2 (I 0)) fun v5 =>
 Br v5 (
 Q (.tuple ⟨[(I 0), (I 10)]⟩) h) (
 thn (biI .gtr t2 (I 1)) fun v6 =>
 Br v6 (
 Q (.tuple ⟨[(I 0), (I 10)]⟩) h) (
 A38_1 Q t0 t1 t2 t3 t4 t5 h))))
) : A38_0 Q t0 t1 t2 t3 t4 t5 h := by intro e he; cases he; exact bF L38 (by kernel_rfl) H
theorem b38_1 {h : AH} {Q : Value → AH → Prop} {t0 t1 t2 t3 t4 t5 : Value} (H :
 Cl Pr K 39 [t0, t1, t3, t4] h fun v0 h0 => -- (*donjon/donjonref13.Cache).May
 thn (unV .not v0) fun v1 =>
 Br v1 (
 Q (.tuple ⟨[(I 0), (I 16)]⟩) h0) (
 A38_2 Q t0 t1 t2 t4 t5 h0)
) : A38_1 Q t0 t1 t2 t3 t4 t5 h := by intro e he; cases he; exact bF L38 (by kernel_rfl) H
theorem b38_2 {h : AH} {Q : Value → AH → Prop} {t0 t1 t2 t4 t5 : Value} (H :
 resv h 11 fun r1 h0 =>
 thn (nilV t0) fun v2 =>
 thn (padd 4 v2) fun v3 =>
 thn (ld1 h0 v3) fun v4 =>
 Cl Pr K 61 [t0, t1] h0 fun v5 h5 => -- (*donjon/donjonref13.Cache).At
 thn (idxS 5 v4 v5) fun v6 =>
 thn (ldN h5 5 v6) fun v7 =>
 alcAt h5 (r1 + 9) (.cells [(I 0), (I 0), (I 0), (I 0), (I 0)] 99 (0, 0) true) fun p9 h8 =>
 thn (stV h8 5 (pt p9 0 0) v7) fun h10 =>
(veq t0 t0 = true) ∧ (
(thn (nilV t0) fun v11 =>
 veq v11 v2 = true) ∧ (
(thn (padd 4 v2) fun v12 =>
 veq v12 v3 = true) ∧ (
(thn (ld1 h8 v3) fun v13 =>
 veq v13 v4 = true) ∧ (
 Br t4 (
 A38_3 Q t0 t2 t5 (pt p9 0 0) (I 0) h10) (
 A38_4 Q t0 t2 (pt p9 0 0) h10)))))
) : A38_2 Q t0 t1 t2 t4 t5 h := by intro e he; cases he; exact bF L38 (by kernel_rfl) H
theorem b38_3 {h : AH} {Q : Value → AH → Prop} {t0 t2 t5 t14 t15 : Value} (H :
 thn (padd 1 t14) fun v0 =>
 thn (stV h 1 v0 (I 4)) fun h1 =>
 thn (padd 3 t14) fun v2 =>
 thn (idxA 2 1 v2 t2) fun v3 =>
 thn (stV h1 1 v3 t5) fun h4 =>
 thn (ldN h4 5 t14) fun v5 =>
 Cl Pr K 65 [t0, v5] h4 fun v6 h6 => -- (*donjon/donjonref13.Cache).put
 Q (.tuple ⟨[t15, (I 0)]⟩) h6
) : A38_3 Q t0 t2 t5 t14 t15 h := by intro e he; cases he; exact bF L38 (by kernel_rfl) H
theorem b38_4 {h : AH} {Q : Value → AH → Prop} {t0 t2 t14 : Value} (H :
 thn (padd 3 t14) fun v0 =>
 thn (idxA 2 1 v0 t2) fun v1 =>
 thn (ld1 h v1) fun v2 =>
 thn (ldN h 5 t14) fun v3 =>
 Cl Pr K 65 [t0, v3] h fun v4 h4 => -- (*donjon/donjonref13.Cache).put
 Q (.tuple ⟨[v2, (I 0)]⟩) h4
) : A38_4 Q t0 t2 t14 h := by intro e he; cases he; exact bF L38 (by kernel_rfl) H
theorem c38 {h : AH} {Q : Value → AH → Prop} {a0 a1 a2 a3 a4 a5 : Value} (H : A38_0 Q a0 a1 a2 a3 a4 a5 h) : Cl Pr K 38 [a0, a1, a2, a3, a4, a5] h Q :=
  ok_enter (by kernel_rfl) (by kernel_rfl) (Eq.mp (by kernel_rfl) (H (fun i => ([a0, a1, a2, a3, a4, a5] : List Value).getD i undef) rfl))

/-! ### 39 (*donjon/donjonref13.Cache).May: params 4, captured 0, results [tmp 8] -/
noncomputable def L39 : List (Option Nat × List Nat) := [(some 0, [0, 1, 2, 3])]
noncomputable def A39_0 (Q : Value → AH → Prop) (t0 t1 t2 t3 : Value) (h : AH) : Prop := Pt Pr K 39 none (retV Pr 39 Q) 39 [0, 1, 2, 3] [.code (cc 39 2), .code (cc 39 3)] [] [t0, t1, t2, t3] h
theorem b39_0 {h : AH} {Q : Value → AH → Prop} {t0 t1 t2 t3 : Value} (H :
 Cl Pr K 61 [t0, t1] h fun v0 h0 => -- (*donjon/donjonref13.Cache).At
 thn (biI .geq v0 (I 0)) fun v1 =>
 Br v1 (
 thn (nilV t0) fun v2 =>
 thn (padd 4 v2) fun v3 =>
 thn (ld1 h0 v3) fun v4 =>
 thn (idxS 5 v4 v0) fun v5 =>
 thn (padd 2 v5) fun v6 =>
 thn (ld1 h0 v6) fun v7 =>
 thn (biI .eql v7 t2) fun v8 =>
 Br v8 (
 thn (nilV t0) fun v9 =>
 thn (padd 4 v9) fun v10 =>
 thn (ld1 h0 v10) fun v11 =>
 thn (idxS 5 v11 v0) fun v12 =>
 thn (padd 1 v12) fun v13 =>
 thn (ld1 h0 v13) fun v14 =>
 Cl Pr K 62 [v14, t3] h0 fun v15 h15 => -- donjon/donjonref13.allows
 Q v15 h15) (
 Q (.bool false) h0)) (
 Q (.bool false) h0)
) : A39_0 Q t0 t1 t2 t3 h := by intro e he; cases he; exact bF L39 (by kernel_rfl) H
theorem c39 {h : AH} {Q : Value → AH → Prop} {a0 a1 a2 a3 : Value} (H : A39_0 Q a0 a1 a2 a3 h) : Cl Pr K 39 [a0, a1, a2, a3] h Q :=
  ok_enter (by kernel_rfl) (by kernel_rfl) (Eq.mp (by kernel_rfl) (H (fun i => ([a0, a1, a2, a3] : List Value).getD i undef) rfl))

/-! ### 40 (*donjon/tags.Cache[donjon/cache.Copy]).Copy: params 1, captured 0, results [tmp 2] -/
noncomputable def L40 : List (Option Nat × List Nat) := [(some 0, [0]), (some 3, [0]), (some 5, [3, 23, 24, 25]), (some 6, [3, 23, 24, 25])]
noncomputable def A40_0 (Q : Value → AH → Prop) (t0 : Value) (h : AH) : Prop := Pt Pr K 40 none (retV Pr 40 Q) 40 [0] [.code (cc 40 2), .code (cc 40 3)] [] [t0] h
noncomputable def A40_1 (Q : Value → AH → Prop) (t0 : Value) (h : AH) : Prop := Pt Pr K 40 none (retV Pr 40 Q) 40 [0] [.code (cc 40 14), .code (cc 40 15)] [] [t0] h
noncomputable def A40_2 (Q : Value → AH → Prop) (t3 t23 t24 t25 : Value) (h : AH) : Prop := Pt Pr K 40 none (retV Pr 40 Q) 40 [3, 23, 24, 25] [.code (cc 40 488), .code (cc 40 489), .inLoop (cc 40 244), .inBlock 0, .code (cc 40 31)] [] [t3, t23, t24, t25] h
noncomputable def A40_3 (Q : Value → AH → Prop) (t3 t23 t24 t25 : Value) (h : AH) : Prop := Pt Pr K 40 none (retV Pr 40 Q) 40 [3, 23, 24, 25] [.code (cc 40 7832), .code (cc 40 7833), .inBlock 1, .code (cc 40 1959), .inLoop (cc 40 244), .inBlock 0, .code (cc 40 31)] [] [t3, t23, t24, t25] h
theorem b40_0 {h : AH} {Q : Value → AH → Prop} {t0 : Value} (H :
 thn (biP .eql t0 (.pointer none)) fun v0 =>
 Br v0 (
 Q (.pointer none) h) (
 A40_1 Q t0 h)
) : A40_0 Q t0 h := by intro e he; cases he; exact bF L40 (by kernel_rfl) H
theorem b40_1 {h : AH} {Q : Value → AH → Prop} {t0 : Value} (H :
 resv h 13 fun r1 h0 =>
 thn (nilV t0) fun v2 =>
 thn (padd 0 v2) fun v3 =>
 thn (ld1 h0 v3) fun v4 =>
 thn (nilV t0) fun v5 =>
 thn (padd 1 v5) fun v6 =>
 thn (ld1 h0 v6) fun v7 =>
 thn (lenS v7) fun v8 =>
 thn (mkS 24 v8 v8) fun n10 =>
 alcSAt h0 (r1 + 9) 1 114 (zerosA [(.slice none 0 0)] n10.2) n10.1 n10.2 fun s11 h9 =>
 thn (fillL [(I 0), (.slice none 0 0)] [(0, 1, v4), (1, 1, s11)]) fun c12 =>
 thn (blkOf 124 (.agg ⟨c12⟩)) fun b14 =>
 alcAt h9 (r1 + 11) b14 fun p15 h13 =>
 thn (nilV t0) fun v16 =>
 thn (padd 1 v16) fun v17 =>
 thn (ld1 h13 v17) fun v18 =>
 thn (lenS v18) fun v19 =>
 A40_2 Q (pt p15 0 0) v18 v19 (I 0) h13
) : A40_1 Q t0 h := by intro e he; cases he; exact bF L40 (by kernel_rfl) H
theorem b40_2 {h : AH} {Q : Value → AH → Prop} {t3 t23 t24 t25 : Value} (H :
 thn (biI .lss t25 t24) fun v0 =>
 Br v0 (
 A40_3 Q t3 t23 t24 t25 h) (
 Q t3 h)
) : A40_2 Q t3 t23 t24 t25 h := by intro e he; cases he; exact bF L40 (by kernel_rfl) H
theorem b40_3 {h : AH} {Q : Value → AH → Prop} {t3 t23 t24 t25 : Value} (H :
 thn (idxS 1 t23 t25) fun v0 =>
 thn (ld1 h v0) fun v1 =>
 resv h 9 fun r3 h2 =>
 thn (nilV t3) fun v4 =>
 thn (padd 1 v4) fun v5 =>
 thn (ld1 h2 v5) fun v6 =>
 Cl Pr K 67 [v1] h2 fun v7 h7 => -- slices.Clone[[]donjon/tags.thing[donjon/cache.Copy],donjon/tags.thing[donjon/cache.Copy]]
 thn (idxS 1 v6 t25) fun v8 =>
 thn (stV h7 1 v8 v7) fun h9 =>
(veq t3 t3 = true) ∧ (
(thn (nilV t3) fun v10 =>
 veq v10 v4 = true) ∧ (
(thn (padd 1 v4) fun v11 =>
 veq v11 v5 = true) ∧ (
(thn (ld1 h7 v5) fun v12 =>
 veq v12 v6 = true) ∧ (
(veq t25 t25 = true) ∧ (
 thn (biI .add t25 (I 1)) fun v13 =>
 A40_2 Q t3 t23 t24 v13 h9)))))
) : A40_3 Q t3 t23 t24 t25 h := by intro e he; cases he; exact bF L40 (by kernel_rfl) H
theorem c40 {h : AH} {Q : Value → AH → Prop} {a0 : Value} (H : A40_0 Q a0 h) : Cl Pr K 40 [a0] h Q :=
  ok_enter (by kernel_rfl) (by kernel_rfl) (Eq.mp (by kernel_rfl) (H (fun i => ([a0] : List Value).getD i undef) rfl))

/-! ### 41 donjon/cache.hands: params 0, captured 0, results [tmp 0] -/
noncomputable def L41 : List (Option Nat × List Nat) := [(some 0, [])]
noncomputable def A41_0 (Q : Value → AH → Prop) (h : AH) : Prop := Pt Pr K 41 none (retV Pr 41 Q) 6 [] [.code (cc 41 2), .code (cc 41 3)] [] [] h
theorem b41_0 {h : AH} {Q : Value → AH → Prop} (H :
 thn (fillL [(I 0), .nilFunc] [(0, 1, (I 8)), (1, 1, (.func (.func 68) #[] #[]))]) fun c0 =>
 thn (fillL [(I 0), .nilFunc] [(0, 1, (I 9)), (1, 1, (.func (.func 69) #[] #[]))]) fun c1 =>
 thn (fillL [(I 0), .nilFunc] [(0, 1, (I 10)), (1, 1, (.func (.func 70) #[] #[]))]) fun c2 =>
 thn (fillL [(I 0), .nilFunc] [(0, 1, (I 11)), (1, 1, (.func (.func 71) #[] #[]))]) fun c3 =>
 thn (fillL [(I 0), .nilFunc, (I 0), .nilFunc, (I 0), .nilFunc, (I 0), .nilFunc] [(0, 2, (.agg ⟨c0⟩)), (2, 2, (.agg ⟨c1⟩)), (4, 2, (.agg ⟨c2⟩)), (6, 2, (.agg ⟨c3⟩))]) fun l5 =>
 alcS h 2 108 l5 4 4 fun s6 h4 =>
 Q s6 h4
) : A41_0 Q  h := by intro e _; exact bF L41 (by kernel_rfl) H
theorem c41 {h : AH} {Q : Value → AH → Prop} (H : A41_0 Q  h) : Cl Pr K 41 [] h Q :=
  ok_enter (by kernel_rfl) (by kernel_rfl) (Eq.mp (by kernel_rfl) (H (fun i => ([] : List Value).getD i undef) rfl))

/-! ### 42 (*donjon/cache.Cache).has: params 2, captured 0, results [tmp 4] -/
noncomputable def L42 : List (Option Nat × List Nat) := [(some 0, [0, 1])]
noncomputable def A42_0 (Q : Value → AH → Prop) (t0 t1 : Value) (h : AH) : Prop := Pt Pr K 42 none (retV Pr 42 Q) 16 [0, 1] [.code (cc 42 2), .code (cc 42 3)] [] [t0, t1] h
theorem b42_0 {h : AH} {Q : Value → AH → Prop} {t0 t1 : Value} (H :
 thn (biI .geq t1 (I 0)) fun v0 =>
 Br v0 (
 thn (nilV t0) fun v1 =>
 thn (padd 1 v1) fun v2 =>
 thn (ldN h 7 v2) fun v3 =>
 Cl Pr K 72 [v3] h fun v4 h4 => -- donjon/place.Lines
 thn (biI .lss t1 v4) fun v5 =>
 Q v5 h4) (
 Q (.bool false) h)
) : A42_0 Q t0 t1 h := by intro e he; cases he; exact bF L42 (by kernel_rfl) H
theorem c42 {h : AH} {Q : Value → AH → Prop} {a0 a1 : Value} (H : A42_0 Q a0 a1 h) : Cl Pr K 42 [a0, a1] h Q :=
  ok_enter (by kernel_rfl) (by kernel_rfl) (Eq.mp (by kernel_rfl) (H (fun i => ([a0, a1] : List Value).getD i undef) rfl))

/-! ### 43 (*donjon/tags.Cache[donjon/cache.Copy]).find: params 2, captured 0, results [tmp 4, tmp 5, tmp 6] -/
noncomputable def L43 : List (Option Nat × List Nat) := [(some 0, [0, 1]), (some 3, [0, 3]), (some 5, [0, 3]), (some 8, [4, 5, 7, 29, 30, 31]), (some 9, [4, 5, 7, 29, 30, 31]), (some 11, [4, 8]), (some 12, [4, 5, 7, 29, 30, 31])]
noncomputable def A43_0 (Q : Value → AH → Prop) (t0 t1 : Value) (h : AH) : Prop := Pt Pr K 43 none (retV Pr 43 Q) 43 [0, 1] [.code (cc 43 2), .code (cc 43 3)] [] [t0, t1] h
noncomputable def A43_1 (Q : Value → AH → Prop) (t0 t3 : Value) (h : AH) : Prop := Pt Pr K 43 none (retV Pr 43 Q) 43 [0, 3] [.code (cc 43 52), .code (cc 43 53), .code (cc 43 27), .inScope (cc 43 6)] [] [t0, t3] h
noncomputable def A43_2 (Q : Value → AH → Prop) (t0 t3 : Value) (h : AH) : Prop := Pt Pr K 43 none (retV Pr 43 Q) 43 [0, 3] [.code (cc 43 54), .code (cc 43 55), .inScope (cc 43 6)] [] [t0, t3] h
noncomputable def A43_3 (Q : Value → AH → Prop) (t4 t5 t7 t29 t30 t31 : Value) (h : AH) : Prop := Pt Pr K 43 none (retV Pr 43 Q) 43 [4, 5, 7, 29, 30, 31] [.code (cc 43 7144), .code (cc 43 7145), .inLoop (cc 43 3572), .inBlock 0, .code (cc 43 447), .inScope (cc 43 6)] [] [t4, t5, t7, t29, t30, t31] h
noncomputable def A43_4 (Q : Value → AH → Prop) (t4 t5 t7 t29 t30 t31 : Value) (h : AH) : Prop := Pt Pr K 43 none (retV Pr 43 Q) 43 [4, 5, 7, 29, 30, 31] [.code (cc 43 114328), .code (cc 43 114329), .inBlock 1, .code (cc 43 28583), .inLoop (cc 43 3572), .inBlock 0, .code (cc 43 447), .inScope (cc 43 6)] [] [t4, t5, t7, t29, t30, t31] h
noncomputable def A43_5 (Q : Value → AH → Prop) (t4 t8 : Value) (h : AH) : Prop := Pt Pr K 43 none (retV Pr 43 Q) 43 [4, 8] [.code (cc 43 914636), .code (cc 43 914637), .inBlock 1, .code (cc 43 28583), .inLoop (cc 43 3572), .inBlock 0, .code (cc 43 447), .inScope (cc 43 6)] [] [t4, t8] h
noncomputable def A43_6 (Q : Value → AH → Prop) (t4 t5 t7 t29 t30 t31 : Value) (h : AH) : Prop := Pt Pr K 43 none (retV Pr 43 Q) 43 [4, 5, 7, 29, 30, 31] [.code (cc 43 28583), .inLoop (cc 43 3572), .inBlock 0, .code (cc 43 447), .inScope (cc 43 6)] [] [t4, t5, t7, t29, t30, t31] h
theorem b43_0 {h : AH} {Q : Value → AH → Prop} {t0 t1 : Value} (H :
 thn (blkOf 3 t1) fun b1 =>
 alc h b1 fun p2 h0 =>
 thn (biP .eql t0 (.pointer none)) fun v3 =>
 Br v3 (
 Q (.tuple ⟨[(.pointer none), (I 0), (I 2)]⟩) h0) (
 A43_1 Q t0 (pt p2 0 0) h0)
) : A43_0 Q t0 t1 h := by intro e he; cases he; exact bF L43 (by kernel_rfl) H
theorem b43_1 {h : AH} {Q : Value → AH → Prop} {t0 t3 : Value} (H :
 thn (ld1 h t3) fun v0 =>
 thn (biI .lss v0 (I 0)) fun v1 =>
 Br v1 (
 Q (.tuple ⟨[(.pointer none), (I 0), (I 10)]⟩) h) (
 A43_2 Q t0 t3 h)
) : A43_1 Q t0 t3 h := by intro e he; cases he; exact bF L43 (by kernel_rfl) H
theorem b43_2 {h : AH} {Q : Value → AH → Prop} {t0 t3 : Value} (H :
 resv h 14 fun r1 h0 =>
 thn (nilV t0) fun v2 =>
 thn (padd 1 v2) fun v3 =>
 thn (ld1 h0 v3) fun v4 =>
 thn (ld1 h0 t3) fun v5 =>
 thn (nilV t0) fun v6 =>
 thn (padd 1 v6) fun v7 =>
 thn (ld1 h0 v7) fun v8 =>
 thn (lenS v8) fun v9 =>
 thn (biI .rem v5 v9) fun v10 =>
 thn (idxS 1 v4 v10) fun v11 =>
 thn (nilV v11) fun v12 =>
 thn (ld1 h0 v12) fun v13 =>
 thn (lenS v13) fun v14 =>
 A43_3 Q v11 (I (-1)) (.func (.func 73) #[] #[t3]) v13 v14 (I 0) h0
) : A43_2 Q t0 t3 h := by intro e he; cases he; exact bF L43 (by kernel_rfl) H
theorem b43_3 {h : AH} {Q : Value → AH → Prop} {t4 t5 t7 t29 t30 t31 : Value} (H :
 thn (biI .lss t31 t30) fun v0 =>
 Br v0 (
 A43_4 Q t4 t5 t7 t29 t30 t31 h) (
 Q (.tuple ⟨[t4, t5, (I 0)]⟩) h)
) : A43_3 Q t4 t5 t7 t29 t30 t31 h := by intro e he; cases he; exact bF L43 (by kernel_rfl) H
theorem b43_4 {h : AH} {Q : Value → AH → Prop} {t4 t5 t7 t29 t30 t31 : Value} (H :
 thn (idxS 5 t29 t31) fun v0 =>
 thn (ldN h 5 v0) fun v1 =>
 alc h (.cells [(I 0), (I 0), (I 0), (I 0), (I 0)] 113 (0, 0) true) fun p3 h2 =>
 thn (stV h2 5 (pt p3 0 0) v1) fun h4 =>
 thn (ldN h4 5 (pt p3 0 0)) fun v5 =>
 OkF Pr K t7 [v5] h4 fun v6 h6 =>
 Br v6 (
 A43_5 Q t4 t31 h6) (
 A43_6 Q t4 t5 t7 t29 t30 t31 h6)
) : A43_4 Q t4 t5 t7 t29 t30 t31 h := by intro e he; cases he; exact bF L43 (by kernel_rfl) H
theorem b43_5 {h : AH} {Q : Value → AH → Prop} {t4 t8 : Value} (H :
 Q (.tuple ⟨[t4, t8, (I 0)]⟩) h
) : A43_5 Q t4 t8 h := by intro e he; cases he; exact bF L43 (by kernel_rfl) H
theorem b43_6 {h : AH} {Q : Value → AH → Prop} {t4 t5 t7 t29 t30 t31 : Value} (H :
 thn (biI .add t31 (I 1)) fun v0 =>
 A43_3 Q t4 t5 t7 t29 t30 v0 h
) : A43_6 Q t4 t5 t7 t29 t30 t31 h := by intro e he; cases he; exact bF L43 (by kernel_rfl) H
theorem c43 {h : AH} {Q : Value → AH → Prop} {a0 a1 : Value} (H : A43_0 Q a0 a1 h) : Cl Pr K 43 [a0, a1] h Q :=
  ok_enter (by kernel_rfl) (by kernel_rfl) (Eq.mp (by kernel_rfl) (H (fun i => ([a0, a1] : List Value).getD i undef) rfl))

/-! ### 44 (donjon/cache.Copy).allows: params 2, captured 0, results [tmp 4] -/
noncomputable def L44 : List (Option Nat × List Nat) := [(some 0, [0, 1])]
noncomputable def A44_0 (Q : Value → AH → Prop) (t0 t1 : Value) (h : AH) : Prop := Pt Pr K 44 none (retV Pr 44 Q) 12 [0, 1] [.code (cc 44 2), .code (cc 44 3)] [] [t0, t1] h
theorem b44_0 {h : AH} {Q : Value → AH → Prop} {t0 t1 : Value} (H :
 thn (blkOf 46 t0) fun b1 =>
 alc h b1 fun p2 h0 =>
 Br t1 (
 thn (padd 0 (pt p2 0 0)) fun v3 =>
 thn (ld1 h0 v3) fun v4 =>
 Cl Pr K 74 [v4] h0 fun v5 h5 => -- donjon/moesi.Store
 Q v5 h5) (
 thn (padd 0 (pt p2 0 0)) fun v3 =>
 thn (ld1 h0 v3) fun v4 =>
 Cl Pr K 75 [v4] h0 fun v5 h5 => -- donjon/moesi.Load
 Q v5 h5)
) : A44_0 Q t0 t1 h := by intro e he; cases he; exact bF L44 (by kernel_rfl) H
theorem c44 {h : AH} {Q : Value → AH → Prop} {a0 a1 : Value} (H : A44_0 Q a0 a1 h) : Cl Pr K 44 [a0, a1] h Q :=
  ok_enter (by kernel_rfl) (by kernel_rfl) (Eq.mp (by kernel_rfl) (H (fun i => ([a0, a1] : List Value).getD i undef) rfl))

/-! ### 45 (*donjon/tags.Cache[donjon/cache.Copy]).Victim: params 2, captured 0, results [tmp 4, tmp 5, tmp 6] -/
noncomputable def L45 : List (Option Nat × List Nat) := [(some 0, [0, 1]), (some 4, [0, 7, 8])]
noncomputable def A45_0 (Q : Value → AH → Prop) (t0 t1 : Value) (h : AH) : Prop := Pt Pr K 45 none (retV Pr 45 Q) 38 [0, 1] [.code (cc 45 2), .code (cc 45 3)] [] [t0, t1] h
noncomputable def A45_1 (Q : Value → AH → Prop) (t0 t7 t8 : Value) (h : AH) : Prop := Pt Pr K 45 none (retV Pr 45 Q) 38 [0, 7, 8] [.code (cc 45 60), .code (cc 45 61), .code (cc 45 31)] [] [t0, t7, t8] h
theorem b45_0 {h : AH} {Q : Value → AH → Prop} {t0 t1 : Value} (H :
 Cl Pr K 43 [t0, t1] h fun v0 h0 => -- (*donjon/tags.Cache[donjon/cache.Copy]).find
 thn (extV 0 v0) fun v1 =>
 thn (extV 1 v0) fun v2 =>
 thn (extV 2 v0) fun v3 =>
 thn (biI .neq v3 (I 0)) fun v4 =>
 Br v4 (
 Q (.tuple ⟨[(I 0), (.bool false), v3]⟩) h0) (
 A45_1 Q t0 v1 v2 h0)
) : A45_0 Q t0 t1 h := by intro e he; cases he; exact bF L45 (by kernel_rfl) H
theorem b45_1 {h : AH} {Q : Value → AH → Prop} {t0 t7 t8 : Value} (H :
 resv h 13 fun r1 h0 =>
 thn (biI .geq t8 (I 0)) fun v2 =>
 Br v2 (
 Q (.tuple ⟨[(I 0), (.bool false), (I 0)]⟩) h0) (
 thn (nilV t7) fun v3 =>
 thn (ld1 h0 v3) fun v4 =>
 thn (lenS v4) fun v5 =>
 thn (nilV t0) fun v6 =>
 thn (padd 0 v6) fun v7 =>
 thn (ld1 h0 v7) fun v8 =>
 thn (biI .lss v5 v8) fun v9 =>
 Br v9 (
 Q (.tuple ⟨[(I 0), (.bool false), (I 0)]⟩) h0) (
 thn (nilV t7) fun v10 =>
 thn (ld1 h0 v10) fun v11 =>
 thn (idxS 5 v11 (I 0)) fun v12 =>
 thn (padd 0 v12) fun v13 =>
 thn (ld1 h0 v13) fun v14 =>
 Q (.tuple ⟨[v14, (.bool true), (I 0)]⟩) h0))
) : A45_1 Q t0 t7 t8 h := by intro e he; cases he; exact bF L45 (by kernel_rfl) H
theorem c45 {h : AH} {Q : Value → AH → Prop} {a0 a1 : Value} (H : A45_0 Q a0 a1 h) : Cl Pr K 45 [a0, a1] h Q :=
  ok_enter (by kernel_rfl) (by kernel_rfl) (Eq.mp (by kernel_rfl) (H (fun i => ([a0, a1] : List Value).getD i undef) rfl))

/-! ### 46 (*donjon/tags.Cache[donjon/cache.Copy]).Drop: params 2, captured 0, results [cell 4 : 46, tmp 5] -/
noncomputable def L46 : List (Option Nat × List Nat) := [(some 0, [0, 1]), (some 4, [4, 6, 7]), (some 6, [4, 6, 7])]
noncomputable def A46_0 (Q : Value → AH → Prop) (t0 t1 : Value) (h : AH) : Prop := Pt Pr K 46 none (retV Pr 46 Q) 39 [0, 1] [.code (cc 46 2), .code (cc 46 3)] [] [t0, t1] h
noncomputable def A46_1 (Q : Value → AH → Prop) (t4 t6 t7 : Value) (h : AH) : Prop := Pt Pr K 46 none (retV Pr 46 Q) 39 [4, 6, 7] [.code (cc 46 60), .code (cc 46 61), .code (cc 46 31)] [] [t4, t6, t7] h
noncomputable def A46_2 (Q : Value → AH → Prop) (t4 t6 t7 : Value) (h : AH) : Prop := Pt Pr K 46 none (retV Pr 46 Q) 39 [4, 6, 7] [.code (cc 46 62), .code (cc 46 63)] [] [t4, t6, t7] h
theorem b46_0 {h : AH} {Q : Value → AH → Prop} {t0 t1 : Value} (H :
 alc h (.cells [(I 0), (I 0), (I 0), (I 0)] 46 (0, 0) true) fun p1 h0 =>
 Cl Pr K 43 [t0, t1] h0 fun v2 h2 => -- (*donjon/tags.Cache[donjon/cache.Copy]).find
 thn (extV 0 v2) fun v3 =>
 thn (extV 1 v2) fun v4 =>
 thn (extV 2 v2) fun v5 =>
 thn (biI .neq v5 (I 0)) fun v6 =>
 Br v6 (
 thn (ldN h2 4 (pt p1 0 0)) fun v7 =>
 thn (stV h2 4 (pt p1 0 0) v7) fun h8 =>
 thn (ldN h8 4 (pt p1 0 0)) fun v9 =>
 Q (.tuple ⟨[v9, v5]⟩) h8) (
 A46_1 Q (pt p1 0 0) v3 v4 h2)
) : A46_0 Q t0 t1 h := by intro e he; cases he; exact bF L46 (by kernel_rfl) H
theorem b46_1 {h : AH} {Q : Value → AH → Prop} {t4 t6 t7 : Value} (H :
 thn (biI .lss t7 (I 0)) fun v0 =>
 Br v0 (
 thn (ldN h 4 t4) fun v1 =>
 thn (stV h 4 t4 v1) fun h2 =>
 thn (ldN h2 4 t4) fun v3 =>
 Q (.tuple ⟨[v3, (I 12)]⟩) h2) (
 A46_2 Q t4 t6 t7 h)
) : A46_1 Q t4 t6 t7 h := by intro e he; cases he; exact bF L46 (by kernel_rfl) H
theorem b46_2 {h : AH} {Q : Value → AH → Prop} {t4 t6 t7 : Value} (H :
 thn (nilV t6) fun v0 =>
 thn (ld1 h v0) fun v1 =>
 thn (idxS 5 v1 t7) fun v2 =>
 thn (padd 1 v2) fun v3 =>
 thn (ldN h 4 v3) fun v4 =>
 thn (stV h 4 t4 v4) fun h5 =>
 thn (nilV t6) fun v6 =>
 thn (ld1 h5 v6) fun v7 =>
 thn (biI .add t7 (I 1)) fun v8 =>
 Cl Pr K 76 [v7, t7, v8] h5 fun v9 h9 => -- slices.Delete[[]donjon/tags.thing[donjon/cache.Copy],donjon/tags.thing[donjon/cache.Copy]]
 thn (nilV t6) fun v10 =>
 thn (stV h9 1 v10 v9) fun h11 =>
 thn (ldN h11 4 t4) fun v12 =>
 thn (stV h11 4 t4 v12) fun h13 =>
 thn (ldN h13 4 t4) fun v14 =>
 Q (.tuple ⟨[v14, (I 0)]⟩) h13
) : A46_2 Q t4 t6 t7 h := by intro e he; cases he; exact bF L46 (by kernel_rfl) H
theorem c46 {h : AH} {Q : Value → AH → Prop} {a0 a1 : Value} (H : A46_0 Q a0 a1 h) : Cl Pr K 46 [a0, a1] h Q :=
  ok_enter (by kernel_rfl) (by kernel_rfl) (Eq.mp (by kernel_rfl) (H (fun i => ([a0, a1] : List Value).getD i undef) rfl))

/-! ### 47 donjon/moesi.Dirty: params 1, captured 0, results [tmp 2] -/
noncomputable def L47 : List (Option Nat × List Nat) := [(some 0, [0])]
noncomputable def A47_0 (Q : Value → AH → Prop) (t0 : Value) (h : AH) : Prop := Pt Pr K 47 none (retV Pr 47 Q) 11 [0] [.code (cc 47 2), .code (cc 47 3)] [] [t0] h
theorem b47_0 {h : AH} {Q : Value → AH → Prop} {t0 : Value} (H :
 Cl Pr K 60 [t0] h fun v0 h0 => -- donjon/moesi.is
 Br v0 (
 thn (idxA 5 8 (.pointer (some ⟨1, 0, none⟩)) t0) fun v1 =>
 thn (padd 3 v1) fun v2 =>
 thn (ld1 h0 v2) fun v3 =>
 Q v3 h0) (
 Q (.bool false) h0)
) : A47_0 Q t0 h := by intro e he; cases he; exact bF L47 (by kernel_rfl) H
theorem c47 {h : AH} {Q : Value → AH → Prop} {a0 : Value} (H : A47_0 Q a0 h) : Cl Pr K 47 [a0] h Q :=
  ok_enter (by kernel_rfl) (by kernel_rfl) (Eq.mp (by kernel_rfl) (H (fun i => ([a0] : List Value).getD i undef) rfl))

/-! ### 49 (*donjon/tags.Cache[donjon/cache.Copy]).Get: params 2, captured 0, results [cell 4 : 46, tmp 5] -/
noncomputable def L49 : List (Option Nat × List Nat) := [(some 0, [0, 1])]
noncomputable def A49_0 (Q : Value → AH → Prop) (t0 t1 : Value) (h : AH) : Prop := Pt Pr K 49 none (retV Pr 49 Q) 21 [0, 1] [.code (cc 49 2), .code (cc 49 3)] [] [t0, t1] h
theorem b49_0 {h : AH} {Q : Value → AH → Prop} {t0 t1 : Value} (H :
 alc h (.cells [(I 0), (I 0), (I 0), (I 0)] 46 (0, 0) true) fun p1 h0 =>
 Cl Pr K 46 [t0, t1] h0 fun v2 h2 => -- (*donjon/tags.Cache[donjon/cache.Copy]).Drop
 thn (extV 0 v2) fun v3 =>
 thn (extV 1 v2) fun v4 =>
 thn (stV h2 4 (pt p1 0 0) v3) fun h5 =>
 thn (biI .neq v4 (I 0)) fun v6 =>
 Br v6 (
 thn (ldN h5 4 (pt p1 0 0)) fun v7 =>
 thn (stV h5 4 (pt p1 0 0) v7) fun h8 =>
 thn (ldN h8 4 (pt p1 0 0)) fun v9 =>
 Q (.tuple ⟨[v9, v4]⟩) h8) (
 resv h5 7 fun r8 h7 =>
 thn (ldN h7 4 (pt p1 0 0)) fun v9 =>
 thn (ldN h7 4 (pt p1 0 0)) fun v10 =>
 Cl Pr K 51 [t0, t1, v10] h7 fun v11 h11 => -- (*donjon/tags.Cache[donjon/cache.Copy]).Put
 thn (stV h11 4 (pt p1 0 0) v9) fun h12 =>
(thn (ldN h11 4 (pt p1 0 0)) fun v13 =>
 veq v13 v9 = true) ∧ (
 thn (ldN h12 4 (pt p1 0 0)) fun v14 =>
 Q (.tuple ⟨[v14, v11]⟩) h12))
) : A49_0 Q t0 t1 h := by intro e he; cases he; exact bF L49 (by kernel_rfl) H
theorem c49 {h : AH} {Q : Value → AH → Prop} {a0 a1 : Value} (H : A49_0 Q a0 a1 h) : Cl Pr K 49 [a0, a1] h Q :=
  ok_enter (by kernel_rfl) (by kernel_rfl) (Eq.mp (by kernel_rfl) (H (fun i => ([a0, a1] : List Value).getD i undef) rfl))

/-! ### 50 donjon/moesi.Wrote: params 1, captured 0, results [tmp 2, tmp 3] -/
noncomputable def L50 : List (Option Nat × List Nat) := [(some 0, [0]), (some 3, [0])]
noncomputable def A50_0 (Q : Value → AH → Prop) (t0 : Value) (h : AH) : Prop := Pt Pr K 50 none (retV Pr 50 Q) 14 [0] [.code (cc 50 2), .code (cc 50 3)] [] [t0] h
noncomputable def A50_1 (Q : Value → AH → Prop) (t0 : Value) (h : AH) : Prop := Pt Pr K 50 none (retV Pr 50 Q) 14 [0] [.code (cc 50 28), .code (cc 50 29), .code (cc 50 15)] [] [t0] h
theorem b50_0 {h : AH} {Q : Value → AH → Prop} {t0 : Value} (H :
 Cl Pr K 60 [t0] h fun v0 h0 => -- donjon/moesi.is
 thn (unV .not v0) fun v1 =>
 Br v1 (
 Q (.tuple ⟨[(I 0), (I 10)]⟩) h0) (
 A50_1 Q t0 h0)
) : A50_0 Q t0 h := by intro e he; cases he; exact bF L50 (by kernel_rfl) H
theorem b50_1 {h : AH} {Q : Value → AH → Prop} {t0 : Value} (H :
 Cl Pr K 74 [t0] h fun v0 h0 => -- donjon/moesi.Store
 thn (unV .not v0) fun v1 =>
 Br v1 (
 Q (.tuple ⟨[(I 0), (I 16)]⟩) h0) (
 thn (idxA 5 8 (.pointer (some ⟨1, 0, none⟩)) t0) fun v2 =>
 thn (padd 5 v2) fun v3 =>
 thn (ld1 h0 v3) fun v4 =>
 Q (.tuple ⟨[v4, (I 0)]⟩) h0)
) : A50_1 Q t0 h := by intro e he; cases he; exact bF L50 (by kernel_rfl) H
theorem c50 {h : AH} {Q : Value → AH → Prop} {a0 : Value} (H : A50_0 Q a0 h) : Cl Pr K 50 [a0] h Q :=
  ok_enter (by kernel_rfl) (by kernel_rfl) (Eq.mp (by kernel_rfl) (H (fun i => ([a0] : List Value).getD i undef) rfl))

/-! ### 51 (*donjon/tags.Cache[donjon/cache.Copy]).Put: params 3, captured 0, results [tmp 6] -/
noncomputable def L51 : List (Option Nat × List Nat) := [(some 0, [0, 1, 2]), (some 4, [0, 1, 5, 7, 8]), (some 5, [0, 1, 5, 7, 8]), (some 6, [0, 1, 5, 7]), (some 8, [1, 5, 7])]
noncomputable def A51_0 (Q : Value → AH → Prop) (t0 t1 t2 : Value) (h : AH) : Prop := Pt Pr K 51 none (retV Pr 51 Q) 50 [0, 1, 2] [.code (cc 51 2), .code (cc 51 3)] [] [t0, t1, t2] h
noncomputable def A51_1 (Q : Value → AH → Prop) (t0 t1 t5 t7 t8 : Value) (h : AH) : Prop := Pt Pr K 51 none (retV Pr 51 Q) 50 [0, 1, 5, 7, 8] [.code (cc 51 60), .code (cc 51 61), .code (cc 51 31)] [] [t0, t1, t5, t7, t8] h
noncomputable def A51_2 (Q : Value → AH → Prop) (t0 t1 t5 t7 t8 : Value) (h : AH) : Prop := Pt Pr K 51 none (retV Pr 51 Q) 50 [0, 1, 5, 7, 8] [.code (cc 51 122), .code (cc 51 31)] [] [t0, t1, t5, t7, t8] h
noncomputable def A51_3 (Q : Value → AH → Prop) (t0 t1 t5 t7 : Value) (h : AH) : Prop := Pt Pr K 51 none (retV Pr 51 Q) 50 [0, 1, 5, 7] [.code (cc 51 124), .code (cc 51 125), .code (cc 51 63)] [] [t0, t1, t5, t7] h
noncomputable def A51_4 (Q : Value → AH → Prop) (t1 t5 t7 : Value) (h : AH) : Prop := Pt Pr K 51 none (retV Pr 51 Q) 50 [1, 5, 7] [.code (cc 51 126), .code (cc 51 127)] [] [t1, t5, t7] h
theorem b51_0 {h : AH} {Q : Value → AH → Prop} {t0 t1 t2 : Value} (H :
 thn (blkOf 46 t2) fun b1 =>
 alc h b1 fun p2 h0 =>
 Cl Pr K 43 [t0, t1] h0 fun v3 h3 => -- (*donjon/tags.Cache[donjon/cache.Copy]).find
 thn (extV 0 v3) fun v4 =>
 thn (extV 1 v3) fun v5 =>
 thn (extV 2 v3) fun v6 =>
 thn (biI .neq v6 (I 0)) fun v7 =>
 Br v7 (
 Q v6 h3) (
 A51_1 Q t0 t1 (pt p2 0 0) v4 v5 h3)
) : A51_0 Q t0 t1 t2 h := by intro e he; cases he; exact bF L51 (by kernel_rfl) H
theorem b51_1 {h : AH} {Q : Value → AH → Prop} {t0 t1 t5 t7 t8 : Value} (H :
 thn (biI .geq t8 (I 0)) fun v0 =>
 Br v0 (
 A51_2 Q t0 t1 t5 t7 t8 h) (
 A51_3 Q t0 t1 t5 t7 h)
) : A51_1 Q t0 t1 t5 t7 t8 h := by intro e he; cases he; exact bF L51 (by kernel_rfl) H
theorem b51_2 {h : AH} {Q : Value → AH → Prop} {t0 t1 t5 t7 t8 : Value} (H :
 thn (nilV t7) fun v0 =>
 thn (ld1 h v0) fun v1 =>
 thn (biI .add t8 (I 1)) fun v2 =>
 Cl Pr K 76 [v1, t8, v2] h fun v3 h3 => -- slices.Delete[[]donjon/tags.thing[donjon/cache.Copy],donjon/tags.thing[donjon/cache.Copy]]
 thn (nilV t7) fun v4 =>
 thn (stV h3 1 v4 v3) fun h5 =>
 resv h5 9 fun r7 h6 =>
 thn (nilV t7) fun v8 =>
 thn (ld1 h6 v8) fun v9 =>
 thn (lenS v9) fun v10 =>
 thn (nilV t0) fun v11 =>
 thn (padd 0 v11) fun v12 =>
 thn (ld1 h6 v12) fun v13 =>
 thn (biI .geq v10 v13) fun v14 =>
 Br v14 (
 Q (I 11) h6) (
 A51_4 Q t1 t5 t7 h6)
) : A51_2 Q t0 t1 t5 t7 t8 h := by intro e he; cases he; exact bF L51 (by kernel_rfl) H
theorem b51_3 {h : AH} {Q : Value → AH → Prop} {t0 t1 t5 t7 : Value} (H :
 resv h 9 fun r1 h0 =>
 thn (nilV t7) fun v2 =>
 thn (ld1 h0 v2) fun v3 =>
 thn (lenS v3) fun v4 =>
 thn (nilV t0) fun v5 =>
 thn (padd 0 v5) fun v6 =>
 thn (ld1 h0 v6) fun v7 =>
 thn (biI .geq v4 v7) fun v8 =>
 Br v8 (
 Q (I 11) h0) (
 A51_4 Q t1 t5 t7 h0)
) : A51_3 Q t0 t1 t5 t7 h := by intro e he; cases he; exact bF L51 (by kernel_rfl) H
theorem b51_4 {h : AH} {Q : Value → AH → Prop} {t1 t5 t7 : Value} (H :
 resv h 11 fun r1 h0 =>
 thn (nilV t7) fun v2 =>
 thn (ld1 h0 v2) fun v3 =>
 thn (ldN h0 4 t5) fun v4 =>
 thn (fillL [(I 0), (I 0), (I 0), (I 0), (I 0)] [(0, 1, t1), (1, 4, v4)]) fun c5 =>
 thn (fillL [(I 0), (I 0), (I 0), (I 0), (I 0)] [(0, 5, (.agg ⟨c5⟩))]) fun l7 =>
 alcSAt h0 (r1 + 7) 5 113 l7 1 1 fun s8 h6 =>
 thn (appV 5 40 113 h6 v3 s8) fun r9 => (fun v10 h11 =>
 thn (nilV t7) fun v12 =>
 thn (stV h11 1 v12 v10) fun h13 =>
(veq t7 t7 = true) ∧ (
 Q (I 0) h13)) r9.1 r9.2
) : A51_4 Q t1 t5 t7 h := by intro e he; cases he; exact bF L51 (by kernel_rfl) H
theorem c51 {h : AH} {Q : Value → AH → Prop} {a0 a1 a2 : Value} (H : A51_0 Q a0 a1 a2 h) : Cl Pr K 51 [a0, a1, a2] h Q :=
  ok_enter (by kernel_rfl) (by kernel_rfl) (Eq.mp (by kernel_rfl) (H (fun i => ([a0, a1, a2] : List Value).getD i undef) rfl))

/-! ### 60 donjon/moesi.is: params 1, captured 0, results [tmp 2] -/
noncomputable def L60 : List (Option Nat × List Nat) := [(some 0, [0])]
noncomputable def A60_0 (Q : Value → AH → Prop) (t0 : Value) (h : AH) : Prop := Pt Pr K 60 none (retV Pr 60 Q) 9 [0] [.code (cc 60 2), .code (cc 60 3)] [] [t0] h
theorem b60_0 {h : AH} {Q : Value → AH → Prop} {t0 : Value} (H :
 thn (biI .geq t0 (I 0)) fun v0 =>
 Br v0 (
 thn (biI .lss t0 (I 5)) fun v1 =>
 Q v1 h) (
 Q (.bool false) h)
) : A60_0 Q t0 h := by intro e he; cases he; exact bF L60 (by kernel_rfl) H
theorem c60 {h : AH} {Q : Value → AH → Prop} {a0 : Value} (H : A60_0 Q a0 h) : Cl Pr K 60 [a0] h Q :=
  ok_enter (by kernel_rfl) (by kernel_rfl) (Eq.mp (by kernel_rfl) (H (fun i => ([a0] : List Value).getD i undef) rfl))

/-! ### 61 (*donjon/donjonref13.Cache).At: params 2, captured 0, results [tmp 4] -/
noncomputable def L61 : List (Option Nat × List Nat) := [(some 0, [0, 1]), (some 2, [0, 1, 5]), (some 4, [0, 1, 5]), (some 3, [0, 1, 5])]
noncomputable def A61_0 (Q : Value → AH → Prop) (t0 t1 : Value) (h : AH) : Prop := Pt Pr K 61 none (retV Pr 61 Q) 26 [0, 1] [.code (cc 61 2), .code (cc 61 3)] [] [t0, t1] h
noncomputable def A61_1 (Q : Value → AH → Prop) (t0 t1 t5 : Value) (h : AH) : Prop := Pt Pr K 61 none (retV Pr 61 Q) 26 [0, 1, 5] [.code (cc 61 208), .code (cc 61 209), .code (cc 61 105), .inLoop (cc 61 52), .inBlock 0, .code (cc 61 7)] [] [t0, t1, t5] h
noncomputable def A61_2 (Q : Value → AH → Prop) (t0 t1 t5 : Value) (h : AH) : Prop := Pt Pr K 61 none (retV Pr 61 Q) 26 [0, 1, 5] [.code (cc 61 840), .code (cc 61 841), .inBlock 1, .code (cc 61 211), .inLoop (cc 61 52), .inBlock 0, .code (cc 61 7)] [] [t0, t1, t5] h
noncomputable def A61_3 (Q : Value → AH → Prop) (t0 t1 t5 : Value) (h : AH) : Prop := Pt Pr K 61 none (retV Pr 61 Q) 26 [0, 1, 5] [.code (cc 61 211), .inLoop (cc 61 52), .inBlock 0, .code (cc 61 7)] [] [t0, t1, t5] h
theorem b61_0 {h : AH} {Q : Value → AH → Prop} {t0 t1 : Value} (H :
 A61_1 Q t0 t1 (I 0) h
) : A61_0 Q t0 t1 h := by intro e he; cases he; exact bF L61 (by kernel_rfl) H
theorem b61_1 {h : AH} {Q : Value → AH → Prop} {t0 t1 t5 : Value} (H :
 thn (nilV t0) fun v0 =>
 thn (padd 4 v0) fun v1 =>
 thn (ld1 h v1) fun v2 =>
 thn (lenS v2) fun v3 =>
 thn (biI .lss t5 v3) fun v4 =>
 Br v4 (
 A61_2 Q t0 t1 t5 h) (
 Q (I (-1)) h)
) : A61_1 Q t0 t1 t5 h := by intro e he; cases he; exact bF L61 (by kernel_rfl) H
theorem b61_2 {h : AH} {Q : Value → AH → Prop} {t0 t1 t5 : Value} (H :
 thn (nilV t0) fun v0 =>
 thn (padd 4 v0) fun v1 =>
 thn (ld1 h v1) fun v2 =>
 thn (idxS 5 v2 t5) fun v3 =>
 thn (padd 0 v3) fun v4 =>
 thn (ld1 h v4) fun v5 =>
 thn (biI .eql v5 t1) fun v6 =>
 Br v6 (
 Q t5 h) (
 A61_3 Q t0 t1 t5 h)
) : A61_2 Q t0 t1 t5 h := by intro e he; cases he; exact bF L61 (by kernel_rfl) H
theorem b61_3 {h : AH} {Q : Value → AH → Prop} {t0 t1 t5 : Value} (H :
 thn (biI .add t5 (I 1)) fun v0 =>
 A61_1 Q t0 t1 v0 h
) : A61_3 Q t0 t1 t5 h := by intro e he; cases he; exact bF L61 (by kernel_rfl) H
theorem c61 {h : AH} {Q : Value → AH → Prop} {a0 a1 : Value} (H : A61_0 Q a0 a1 h) : Cl Pr K 61 [a0, a1] h Q :=
  ok_enter (by kernel_rfl) (by kernel_rfl) (Eq.mp (by kernel_rfl) (H (fun i => ([a0, a1] : List Value).getD i undef) rfl))

/-! ### 62 donjon/donjonref13.allows: params 2, captured 0, results [tmp 4] -/
noncomputable def L62 : List (Option Nat × List Nat) := [(some 0, [0, 1])]
noncomputable def A62_0 (Q : Value → AH → Prop) (t0 t1 : Value) (h : AH) : Prop := Pt Pr K 62 none (retV Pr 62 Q) 18 [0, 1] [.code (cc 62 2), .code (cc 62 3)] [] [t0, t1] h
theorem b62_0 {h : AH} {Q : Value → AH → Prop} {t0 t1 : Value} (H :
 Br t1 (
 thn (biI .eql t0 (I 2)) fun v0 =>
 Br v0 (
 Q (.bool true) h) (
 thn (biI .eql t0 (I 4)) fun v1 =>
 Q v1 h)) (
 thn (biI .geq t0 (I 1)) fun v0 =>
 Br v0 (
 thn (biI .leq t0 (I 4)) fun v1 =>
 Q v1 h) (
 Q (.bool false) h))
) : A62_0 Q t0 t1 h := by intro e he; cases he; exact bF L62 (by kernel_rfl) H
theorem c62 {h : AH} {Q : Value → AH → Prop} {a0 a1 : Value} (H : A62_0 Q a0 a1 h) : Cl Pr K 62 [a0, a1] h Q :=
  ok_enter (by kernel_rfl) (by kernel_rfl) (Eq.mp (by kernel_rfl) (H (fun i => ([a0, a1] : List Value).getD i undef) rfl))

/-! ### 63 (*donjon/donjonref13.Cache).Victim: params 2, captured 0, results [tmp 4] -/
noncomputable def L63 : List (Option Nat × List Nat) := [(some 0, [0, 1]), (some 4, [0, 1, 5, 6, 7]), (some 6, [0, 1, 5, 6, 7]), (some 10, [0, 5, 6]), (some 7, [0, 1, 5, 6, 7]), (some 5, [0, 1, 5, 6, 7]), (some 8, [0, 1, 5, 7]), (some 9, [0, 1, 5, 6, 7])]
noncomputable def A63_0 (Q : Value → AH → Prop) (t0 t1 : Value) (h : AH) : Prop := Pt Pr K 63 none (retV Pr 63 Q) 56 [0, 1] [.code (cc 63 2), .code (cc 63 3)] [] [t0, t1] h
noncomputable def A63_1 (Q : Value → AH → Prop) (t0 t1 t5 t6 t7 : Value) (h : AH) : Prop := Pt Pr K 63 none (retV Pr 63 Q) 56 [0, 1, 5, 6, 7] [.code (cc 63 976), .code (cc 63 977), .code (cc 63 489), .inLoop (cc 63 244), .inBlock 0, .code (cc 63 31)] [] [t0, t1, t5, t6, t7] h
noncomputable def A63_2 (Q : Value → AH → Prop) (t0 t1 t5 t6 t7 : Value) (h : AH) : Prop := Pt Pr K 63 none (retV Pr 63 Q) 56 [0, 1, 5, 6, 7] [.code (cc 63 3912), .code (cc 63 3913), .inBlock 1, .code (cc 63 979), .inLoop (cc 63 244), .inBlock 0, .code (cc 63 31)] [] [t0, t1, t5, t6, t7] h
noncomputable def A63_3 (Q : Value → AH → Prop) (t0 t5 t6 : Value) (h : AH) : Prop := Pt Pr K 63 none (retV Pr 63 Q) 56 [0, 5, 6] [.code (cc 63 124), .code (cc 63 125), .code (cc 63 63)] [] [t0, t5, t6] h
noncomputable def A63_4 (Q : Value → AH → Prop) (t0 t1 t5 t6 t7 : Value) (h : AH) : Prop := Pt Pr K 63 none (retV Pr 63 Q) 56 [0, 1, 5, 6, 7] [.code (cc 63 31304), .code (cc 63 31305), .code (cc 63 15653), .inBlock 1, .code (cc 63 979), .inLoop (cc 63 244), .inBlock 0, .code (cc 63 31)] [] [t0, t1, t5, t6, t7] h
noncomputable def A63_5 (Q : Value → AH → Prop) (t0 t1 t5 t6 t7 : Value) (h : AH) : Prop := Pt Pr K 63 none (retV Pr 63 Q) 56 [0, 1, 5, 6, 7] [.code (cc 63 979), .inLoop (cc 63 244), .inBlock 0, .code (cc 63 31)] [] [t0, t1, t5, t6, t7] h
noncomputable def A63_6 (Q : Value → AH → Prop) (t0 t1 t5 t7 : Value) (h : AH) : Prop := Pt Pr K 63 none (retV Pr 63 Q) 56 [0, 1, 5, 7] [.code (cc 63 62610), .code (cc 63 15653), .inBlock 1, .code (cc 63 979), .inLoop (cc 63 244), .inBlock 0, .code (cc 63 31)] [] [t0, t1, t5, t7] h
noncomputable def A63_7 (Q : Value → AH → Prop) (t0 t1 t5 t6 t7 : Value) (h : AH) : Prop := Pt Pr K 63 none (retV Pr 63 Q) 56 [0, 1, 5, 6, 7] [.code (cc 63 15653), .inBlock 1, .code (cc 63 979), .inLoop (cc 63 244), .inBlock 0, .code (cc 63 31)] [] [t0, t1, t5, t6, t7] h
theorem b63_0 {h : AH} {Q : Value → AH → Prop} {t0 t1 : Value} (H :
 A63_1 Q t0 t1 (I 0) (I (-1)) (I 0) h
) : A63_0 Q t0 t1 h := by intro e he; cases he; exact bF L63 (by kernel_rfl) H
theorem b63_1 {h : AH} {Q : Value → AH → Prop} {t0 t1 t5 t6 t7 : Value} (H :
 thn (nilV t0) fun v0 =>
 thn (padd 4 v0) fun v1 =>
 thn (ld1 h v1) fun v2 =>
 thn (lenS v2) fun v3 =>
 thn (biI .lss t7 v3) fun v4 =>
 Br v4 (
 A63_2 Q t0 t1 t5 t6 t7 h) (
 A63_3 Q t0 t5 t6 h)
) : A63_1 Q t0 t1 t5 t6 t7 h := by intro e he; cases he; exact bF L63 (by kernel_rfl) H
theorem b63_2 {h : AH} {Q : Value → AH → Prop} {t0 t1 t5 t6 t7 : Value} (H :
 resv h 20 fun r1 h0 =>
 thn (nilV t0) fun v2 =>
 thn (padd 4 v2) fun v3 =>
 thn (ld1 h0 v3) fun v4 =>
 thn (idxS 5 v4 t7) fun v5 =>
 thn (padd 0 v5) fun v6 =>
 thn (ld1 h0 v6) fun v7 =>
 thn (nilV t0) fun v8 =>
 thn (padd 2 v8) fun v9 =>
 thn (ld1 h0 v9) fun v10 =>
 thn (biI .rem v7 v10) fun v11 =>
 thn (nilV t0) fun v12 =>
 thn (padd 2 v12) fun v13 =>
 thn (ld1 h0 v13) fun v14 =>
 thn (biI .rem t1 v14) fun v15 =>
 thn (biI .eql v11 v15) fun v16 =>
 Br v16 (
 A63_4 Q t0 t1 t5 t6 t7 h0) (
 A63_5 Q t0 t1 t5 t6 t7 h0)
) : A63_2 Q t0 t1 t5 t6 t7 h := by intro e he; cases he; exact bF L63 (by kernel_rfl) H
theorem b63_3 {h : AH} {Q : Value → AH → Prop} {t0 t5 t6 : Value} (H :
 thn (nilV t0) fun v0 =>
 thn (padd 3 v0) fun v1 =>
 thn (ld1 h v1) fun v2 =>
 thn (biI .lss t5 v2) fun v3 =>
 Br v3 (
 Q (I (-1)) h) (
 Q t6 h)
) : A63_3 Q t0 t5 t6 h := by intro e he; cases he; exact bF L63 (by kernel_rfl) H
theorem b63_4 {h : AH} {Q : Value → AH → Prop} {t0 t1 t5 t6 t7 : Value} (H :
 thn (biI .eql t5 (I 0)) fun v0 =>
 Br v0 (
 A63_6 Q t0 t1 t5 t7 h) (
 A63_7 Q t0 t1 t5 t6 t7 h)
) : A63_4 Q t0 t1 t5 t6 t7 h := by intro e he; cases he; exact bF L63 (by kernel_rfl) H
theorem b63_5 {h : AH} {Q : Value → AH → Prop} {t0 t1 t5 t6 t7 : Value} (H :
 thn (biI .add t7 (I 1)) fun v0 =>
 A63_1 Q t0 t1 t5 t6 v0 h
) : A63_5 Q t0 t1 t5 t6 t7 h := by intro e he; cases he; exact bF L63 (by kernel_rfl) H
theorem b63_6 {h : AH} {Q : Value → AH → Prop} {t0 t1 t5 t7 : Value} (H :
 thn (nilV t0) fun v0 =>
 thn (padd 4 v0) fun v1 =>
 thn (ld1 h v1) fun v2 =>
 thn (idxS 5 v2 t7) fun v3 =>
 thn (padd 0 v3) fun v4 =>
 thn (ld1 h v4) fun v5 =>
 thn (biI .add t5 (I 1)) fun v6 =>
 thn (biI .add t7 (I 1)) fun v7 =>
 A63_1 Q t0 t1 v6 v5 v7 h
) : A63_6 Q t0 t1 t5 t7 h := by intro e he; cases he; exact bF L63 (by kernel_rfl) H
theorem b63_7 {h : AH} {Q : Value → AH → Prop} {t0 t1 t5 t6 t7 : Value} (H :
 thn (biI .add t5 (I 1)) fun v0 =>
 thn (biI .add t7 (I 1)) fun v1 =>
 A63_1 Q t0 t1 v0 t6 v1 h
) : A63_7 Q t0 t1 t5 t6 t7 h := by intro e he; cases he; exact bF L63 (by kernel_rfl) H
theorem c63 {h : AH} {Q : Value → AH → Prop} {a0 a1 : Value} (H : A63_0 Q a0 a1 h) : Cl Pr K 63 [a0, a1] h Q :=
  ok_enter (by kernel_rfl) (by kernel_rfl) (Eq.mp (by kernel_rfl) (H (fun i => ([a0, a1] : List Value).getD i undef) rfl))

/-! ### 64 (*donjon/donjonref13.Cache).drop: params 2, captured 0, results [] -/
noncomputable def L64 : List (Option Nat × List Nat) := [(some 0, [0, 1]), (some 2, [0, 1, 4, 5]), (some 4, [0, 1, 4, 5]), (some 5, [0, 1, 4, 5]), (some 3, [0, 1, 4, 5])]
noncomputable def A64_0 (Q : Value → AH → Prop) (t0 t1 : Value) (h : AH) : Prop := Pt Pr K 64 none (retV Pr 64 Q) 39 [0, 1] [.code (cc 64 2), .code (cc 64 3)] [] [t0, t1] h
noncomputable def A64_1 (Q : Value → AH → Prop) (t0 t1 t4 t5 : Value) (h : AH) : Prop := Pt Pr K 64 none (retV Pr 64 Q) 39 [0, 1, 4, 5] [.code (cc 64 208), .code (cc 64 209), .code (cc 64 105), .inLoop (cc 64 52), .inBlock 0, .code (cc 64 7)] [] [t0, t1, t4, t5] h
noncomputable def A64_2 (Q : Value → AH → Prop) (t0 t1 t4 t5 : Value) (h : AH) : Prop := Pt Pr K 64 none (retV Pr 64 Q) 39 [0, 1, 4, 5] [.code (cc 64 840), .code (cc 64 841), .inBlock 1, .code (cc 64 211), .inLoop (cc 64 52), .inBlock 0, .code (cc 64 7)] [] [t0, t1, t4, t5] h
noncomputable def A64_3 (Q : Value → AH → Prop) (t0 t1 t4 t5 : Value) (h : AH) : Prop := Pt Pr K 64 none (retV Pr 64 Q) 39 [0, 1, 4, 5] [.code (cc 64 1682), .inBlock 1, .code (cc 64 211), .inLoop (cc 64 52), .inBlock 0, .code (cc 64 7)] [] [t0, t1, t4, t5] h
noncomputable def A64_4 (Q : Value → AH → Prop) (t0 t1 t4 t5 : Value) (h : AH) : Prop := Pt Pr K 64 none (retV Pr 64 Q) 39 [0, 1, 4, 5] [.code (cc 64 211), .inLoop (cc 64 52), .inBlock 0, .code (cc 64 7)] [] [t0, t1, t4, t5] h
theorem b64_0 {h : AH} {Q : Value → AH → Prop} {t0 t1 : Value} (H :
 A64_1 Q t0 t1 (.slice none 0 0) (I 0) h
) : A64_0 Q t0 t1 h := by intro e he; cases he; exact bF L64 (by kernel_rfl) H
theorem b64_1 {h : AH} {Q : Value → AH → Prop} {t0 t1 t4 t5 : Value} (H :
 thn (nilV t0) fun v0 =>
 thn (padd 4 v0) fun v1 =>
 thn (ld1 h v1) fun v2 =>
 thn (lenS v2) fun v3 =>
 thn (biI .lss t5 v3) fun v4 =>
 Br v4 (
 A64_2 Q t0 t1 t4 t5 h) (
 thn (nilV t0) fun v5 =>
 thn (padd 4 v5) fun v6 =>
 thn (stV h 1 v6 t4) fun h7 =>
 Q (.tuple ⟨[]⟩) h7)
) : A64_1 Q t0 t1 t4 t5 h := by intro e he; cases he; exact bF L64 (by kernel_rfl) H
theorem b64_2 {h : AH} {Q : Value → AH → Prop} {t0 t1 t4 t5 : Value} (H :
 thn (nilV t0) fun v0 =>
 thn (padd 4 v0) fun v1 =>
 thn (ld1 h v1) fun v2 =>
 thn (idxS 5 v2 t5) fun v3 =>
 thn (padd 0 v3) fun v4 =>
 thn (ld1 h v4) fun v5 =>
 thn (biI .neq v5 t1) fun v6 =>
 Br v6 (
 A64_3 Q t0 t1 t4 t5 h) (
 A64_4 Q t0 t1 t4 t5 h)
) : A64_2 Q t0 t1 t4 t5 h := by intro e he; cases he; exact bF L64 (by kernel_rfl) H
theorem b64_3 {h : AH} {Q : Value → AH → Prop} {t0 t1 t4 t5 : Value} (H :
 thn (nilV t0) fun v0 =>
 thn (padd 4 v0) fun v1 =>
 thn (ld1 h v1) fun v2 =>
 thn (idxS 5 v2 t5) fun v3 =>
 thn (ldN h 5 v3) fun v4 =>
 thn (fillL [(I 0), (I 0), (I 0), (I 0), (I 0)] [(0, 5, v4)]) fun l6 =>
 alcS h 5 99 l6 1 1 fun s7 h5 =>
 thn (appV 5 40 99 h5 t4 s7) fun r8 => (fun v9 h10 =>
 thn (biI .add t5 (I 1)) fun v11 =>
 A64_1 Q t0 t1 v9 v11 h10) r8.1 r8.2
) : A64_3 Q t0 t1 t4 t5 h := by intro e he; cases he; exact bF L64 (by kernel_rfl) H
theorem b64_4 {h : AH} {Q : Value → AH → Prop} {t0 t1 t4 t5 : Value} (H :
 thn (biI .add t5 (I 1)) fun v0 =>
 A64_1 Q t0 t1 t4 v0 h
) : A64_4 Q t0 t1 t4 t5 h := by intro e he; cases he; exact bF L64 (by kernel_rfl) H
theorem c64 {h : AH} {Q : Value → AH → Prop} {a0 a1 : Value} (H : A64_0 Q a0 a1 h) : Cl Pr K 64 [a0, a1] h Q :=
  ok_enter (by kernel_rfl) (by kernel_rfl) (Eq.mp (by kernel_rfl) (H (fun i => ([a0, a1] : List Value).getD i undef) rfl))

/-! ### 65 (*donjon/donjonref13.Cache).put: params 2, captured 0, results [tmp 4] -/
noncomputable def L65 : List (Option Nat × List Nat) := [(some 0, [0, 1]), (some 3, [0, 3])]
noncomputable def A65_0 (Q : Value → AH → Prop) (t0 t1 : Value) (h : AH) : Prop := Pt Pr K 65 none (retV Pr 65 Q) 31 [0, 1] [.code (cc 65 2), .code (cc 65 3)] [] [t0, t1] h
noncomputable def A65_1 (Q : Value → AH → Prop) (t0 t3 : Value) (h : AH) : Prop := Pt Pr K 65 none (retV Pr 65 Q) 31 [0, 3] [.code (cc 65 14), .code (cc 65 15)] [] [t0, t3] h
theorem b65_0 {h : AH} {Q : Value → AH → Prop} {t0 t1 : Value} (H :
 thn (blkOf 99 t1) fun b1 =>
 alc h b1 fun p2 h0 =>
 thn (padd 0 (pt p2 0 0)) fun v3 =>
 thn (ld1 h0 v3) fun v4 =>
 Cl Pr K 61 [t0, v4] h0 fun v5 h5 => -- (*donjon/donjonref13.Cache).At
 thn (biI .lss v5 (I 0)) fun v6 =>
 Br v6 (
 thn (padd 0 (pt p2 0 0)) fun v7 =>
 thn (ld1 h5 v7) fun v8 =>
 Cl Pr K 63 [t0, v8] h5 fun v9 h9 => -- (*donjon/donjonref13.Cache).Victim
 thn (biI .geq v9 (I 0)) fun v10 =>
 Br v10 (
 Q (.bool false) h9) (
 A65_1 Q t0 (pt p2 0 0) h9)) (
 thn (padd 0 (pt p2 0 0)) fun v7 =>
 thn (ld1 h5 v7) fun v8 =>
 Cl Pr K 64 [t0, v8] h5 fun v9 h9 => -- (*donjon/donjonref13.Cache).drop
 resv h9 11 fun r11 h10 =>
 thn (nilV t0) fun v12 =>
 thn (padd 4 v12) fun v13 =>
 thn (ld1 h10 v13) fun v14 =>
 thn (ldN h10 5 (pt p2 0 0)) fun v15 =>
 thn (fillL [(I 0), (I 0), (I 0), (I 0), (I 0)] [(0, 5, v15)]) fun l17 =>
 alcSAt h10 (r11 + 6) 5 99 l17 1 1 fun s18 h16 =>
 thn (appV 5 40 99 h16 v14 s18) fun r19 => (fun v20 h21 =>
 thn (nilV t0) fun v22 =>
 thn (padd 4 v22) fun v23 =>
 thn (stV h21 1 v23 v20) fun h24 =>
(veq t0 t0 = true) ∧ (
 Q (.bool true) h24)) r19.1 r19.2)
) : A65_0 Q t0 t1 h := by intro e he; cases he; exact bF L65 (by kernel_rfl) H
theorem b65_1 {h : AH} {Q : Value → AH → Prop} {t0 t3 : Value} (H :
 thn (padd 0 t3) fun v0 =>
 thn (ld1 h v0) fun v1 =>
 Cl Pr K 64 [t0, v1] h fun v2 h2 => -- (*donjon/donjonref13.Cache).drop
 resv h2 11 fun r4 h3 =>
 thn (nilV t0) fun v5 =>
 thn (padd 4 v5) fun v6 =>
 thn (ld1 h3 v6) fun v7 =>
 thn (ldN h3 5 t3) fun v8 =>
 thn (fillL [(I 0), (I 0), (I 0), (I 0), (I 0)] [(0, 5, v8)]) fun l10 =>
 alcSAt h3 (r4 + 6) 5 99 l10 1 1 fun s11 h9 =>
 thn (appV 5 40 99 h9 v7 s11) fun r12 => (fun v13 h14 =>
 thn (nilV t0) fun v15 =>
 thn (padd 4 v15) fun v16 =>
 thn (stV h14 1 v16 v13) fun h17 =>
(veq t0 t0 = true) ∧ (
 Q (.bool true) h17)) r12.1 r12.2
) : A65_1 Q t0 t3 h := by intro e he; cases he; exact bF L65 (by kernel_rfl) H
theorem c65 {h : AH} {Q : Value → AH → Prop} {a0 a1 : Value} (H : A65_0 Q a0 a1 h) : Cl Pr K 65 [a0, a1] h Q :=
  ok_enter (by kernel_rfl) (by kernel_rfl) (Eq.mp (by kernel_rfl) (H (fun i => ([a0, a1] : List Value).getD i undef) rfl))

/-! ### 66 (*donjon/donjonref13.Cache).probe: params 3, captured 0, results [cell 6 : 26, tmp 7] -/
noncomputable def L66 : List (Option Nat × List Nat) := [(some 0, [0, 1, 2]), (some 4, [4, 6, 8, 9])]
noncomputable def A66_0 (Q : Value → AH → Prop) (t0 t1 t2 : Value) (h : AH) : Prop := Pt Pr K 66 none (retV Pr 66 Q) 35 [0, 1, 2] [.code (cc 66 2), .code (cc 66 3)] [] [t0, t1, t2] h
noncomputable def A66_1 (Q : Value → AH → Prop) (t4 t6 t8 t9 : Value) (h : AH) : Prop := Pt Pr K 66 none (retV Pr 66 Q) 35 [4, 6, 8, 9] [.code (cc 66 244), .code (cc 66 245), .code (cc 66 31)] [] [t4, t6, t8, t9] h
theorem b66_0 {h : AH} {Q : Value → AH → Prop} {t0 t1 t2 : Value} (H :
 thn (blkOf 99 t1) fun b1 =>
 alc h b1 fun p2 h0 =>
 thn (blkOf 26 t2) fun b4 =>
 alc h0 b4 fun p5 h3 =>
 alc h3 (.cells [(I 0), (I 0), (I 0), (I 0), (I 0), (I 0), (I 0), (.bool false), (I 0)] 26 (0, 0) true) fun p7 h6 =>
 thn (padd 1 (pt p2 0 0)) fun v8 =>
 thn (ld1 h6 v8) fun v9 =>
 thn (padd 4 (pt p5 0 0)) fun v10 =>
 thn (ld1 h6 v10) fun v11 =>
 Cl Pr K 89 [v9, v11] h6 fun v12 h12 => -- donjon/donjonref13.behind
 resv h12 10 fun r14 h13 =>
 thn (nilV t0) fun v15 =>
 thn (padd 0 v15) fun v16 =>
 thn (ld1 h13 v16) fun v17 =>
 thn (padd 2 (pt p5 0 0)) fun v18 =>
 thn (ld1 h13 v18) fun v19 =>
 thn (fillL [(I 0), (I 0), (I 0), (I 0), (I 0), (I 0), (I 0), (.bool false), (I 0)] [(0, 1, (I 5)), (1, 1, v17), (2, 1, v19), (4, 1, v12)]) fun c20 =>
 alcAt h13 (r14 + 8) (.cells [(I 0), (I 0), (I 0), (I 0), (I 0), (I 0), (I 0), (.bool false), (I 0)] 26 (0, 0) true) fun p22 h21 =>
 thn (stV h21 9 (pt p22 0 0) (.agg ⟨c20⟩)) fun h23 =>
 thn (padd 1 (pt p2 0 0)) fun v24 =>
 thn (ld1 h23 v24) fun v25 =>
 thn (biI .geq v25 (I 2)) fun v26 =>
 Br v26 (
 A66_1 Q (pt p2 0 0) (pt p7 0 0) v12 (pt p22 0 0) h23) (
 thn (ldN h23 9 (pt p22 0 0)) fun v27 =>
 thn (stV h23 9 (pt p7 0 0) v27) fun h28 =>
 thn (ldN h28 9 (pt p7 0 0)) fun v29 =>
 Q (.tuple ⟨[v29, v12]⟩) h28)
) : A66_0 Q t0 t1 t2 h := by intro e he; cases he; exact bF L66 (by kernel_rfl) H
theorem b66_1 {h : AH} {Q : Value → AH → Prop} {t4 t6 t8 t9 : Value} (H :
 thn (padd 3 t4) fun v0 =>
 thn (ldN h 2 v0) fun v1 =>
 thn (padd 5 t9) fun v2 =>
 thn (stV h 2 v2 v1) fun h3 =>
 thn (padd 1 t4) fun v4 =>
 thn (ld1 h3 v4) fun v5 =>
 thn (biI .geq v5 (I 3)) fun v6 =>
 thn (padd 7 t9) fun v7 =>
 thn (stV h3 1 v7 v6) fun h8 =>
 thn (ldN h8 9 t9) fun v9 =>
 thn (stV h8 9 t6 v9) fun h10 =>
 thn (ldN h10 9 t6) fun v11 =>
 Q (.tuple ⟨[v11, t8]⟩) h10
) : A66_1 Q t4 t6 t8 t9 h := by intro e he; cases he; exact bF L66 (by kernel_rfl) H
theorem c66 {h : AH} {Q : Value → AH → Prop} {a0 a1 a2 : Value} (H : A66_0 Q a0 a1 a2 h) : Cl Pr K 66 [a0, a1, a2] h Q :=
  ok_enter (by kernel_rfl) (by kernel_rfl) (Eq.mp (by kernel_rfl) (H (fun i => ([a0, a1, a2] : List Value).getD i undef) rfl))

/-! ### 67 slices.Clone[[]donjon/tags.thing[donjon/cache.Copy],donjon/tags.thing[donjon/cache.Copy]]: params 1, captured 0, results [tmp 2] -/
noncomputable def L67 : List (Option Nat × List Nat) := [(some 0, [0])]
noncomputable def A67_0 (Q : Value → AH → Prop) (t0 : Value) (h : AH) : Prop := Pt Pr K 67 none (retV Pr 67 Q) 8 [0] [.code (cc 67 2), .code (cc 67 3)] [] [t0] h
theorem b67_0 {h : AH} {Q : Value → AH → Prop} {t0 : Value} (H :
 thn (biS .eql t0 (.slice none 0 0)) fun v0 =>
 Br v0 (
 Q (.slice none 0 0) h) (
 thn (fillL [] []) fun l2 =>
 alcS h 5 113 l2 0 0 fun s3 h1 =>
 thn (appV 5 40 113 h1 s3 t0) fun r4 => (fun v5 h6 =>
 Q v5 h6) r4.1 r4.2)
) : A67_0 Q t0 h := by intro e he; cases he; exact bF L67 (by kernel_rfl) H
theorem c67 {h : AH} {Q : Value → AH → Prop} {a0 : Value} (H : A67_0 Q a0 h) : Cl Pr K 67 [a0] h Q :=
  ok_enter (by kernel_rfl) (by kernel_rfl) (Eq.mp (by kernel_rfl) (H (fun i => ([a0] : List Value).getD i undef) rfl))

/-! ### 68 (*donjon/cache.Cache).grant: params 2, captured 0, results [tmp 4, tmp 5] -/
noncomputable def L68 : List (Option Nat × List Nat) := [(some 0, [0, 1]), (some 3, [0, 3]), (some 6, [0, 3, 6, 7]), (some 7, [0, 3, 6]), (some 10, [0, 3])]
noncomputable def A68_0 (Q : Value → AH → Prop) (t0 t1 : Value) (h : AH) : Prop := Pt Pr K 68 none (retV Pr 68 Q) 71 [0, 1] [.code (cc 68 2), .code (cc 68 3)] [] [t0, t1] h
noncomputable def A68_1 (Q : Value → AH → Prop) (t0 t3 : Value) (h : AH) : Prop := Pt Pr K 68 none (retV Pr 68 Q) 71 [0, 3] [.code (cc 68 14), .code (cc 68 15)] [] [t0, t3] h
noncomputable def A68_2 (Q : Value → AH → Prop) (t0 t3 t6 t7 : Value) (h : AH) : Prop := Pt Pr K 68 none (retV Pr 68 Q) 71 [0, 3, 6, 7] [.code (cc 68 246), .code (cc 68 31)] [] [t0, t3, t6, t7] h
noncomputable def A68_3 (Q : Value → AH → Prop) (t0 t3 t6 : Value) (h : AH) : Prop := Pt Pr K 68 none (retV Pr 68 Q) 71 [0, 3, 6] [.code (cc 68 124), .code (cc 68 125), .code (cc 68 63)] [] [t0, t3, t6] h
noncomputable def A68_4 (Q : Value → AH → Prop) (t0 t3 : Value) (h : AH) : Prop := Pt Pr K 68 none (retV Pr 68 Q) 71 [0, 3] [.code (cc 68 126), .code (cc 68 127)] [] [t0, t3] h
theorem b68_0 {h : AH} {Q : Value → AH → Prop} {t0 t1 : Value} (H :
 thn (blkOf 26 t1) fun b1 =>
 alc h b1 fun p2 h0 =>
 resv h0 16 fun r4 h3 =>
 thn (nilV t0) fun v5 =>
 thn (padd 9 v5) fun v6 =>
 thn (padd 2 v6) fun v7 =>
 thn (ld1 h3 v7) fun v8 =>
 thn (unV .not v8) fun v9 =>
 Br v9 (
 Q (.tuple ⟨[(.slice none 0 0), (I 16)]⟩) h3) (
 thn (nilV t0) fun v10 =>
 thn (padd 9 v10) fun v11 =>
 thn (padd 0 v11) fun v12 =>
 thn (ld1 h3 v12) fun v13 =>
 thn (padd 2 (pt p2 0 0)) fun v14 =>
 thn (ld1 h3 v14) fun v15 =>
 thn (biI .neq v13 v15) fun v16 =>
 Br v16 (
 Q (.tuple ⟨[(.slice none 0 0), (I 16)]⟩) h3) (
 A68_1 Q t0 (pt p2 0 0) h3))
) : A68_0 Q t0 t1 h := by intro e he; cases he; exact bF L68 (by kernel_rfl) H
theorem b68_1 {h : AH} {Q : Value → AH → Prop} {t0 t3 : Value} (H :
 thn (padd 4 t3) fun v0 =>
 thn (ld1 h v0) fun v1 =>
 thn (padd 3 t3) fun v2 =>
 thn (ld1 h v2) fun v3 =>
 thn (padd 5 t3) fun v4 =>
 thn (ldN h 2 v4) fun v5 =>
 thn (fillL [(I 0), (I 0), (I 0), (I 0)] [(0, 1, v1), (1, 1, v3), (2, 2, v5)]) fun c6 =>
 alc h (.cells [(I 0), (I 0), (I 0), (I 0)] 46 (0, 0) true) fun p8 h7 =>
 thn (stV h7 4 (pt p8 0 0) (.agg ⟨c6⟩)) fun h9 =>
 resv h9 13 fun r11 h10 =>
 thn (nilV t0) fun v12 =>
 thn (padd 0 v12) fun v13 =>
 thn (ld1 h10 v13) fun v14 =>
 thn (padd 2 t3) fun v15 =>
 thn (ld1 h10 v15) fun v16 =>
 Cl Pr K 16 [v14, v16] h10 fun v17 h17 => -- (*donjon/tags.Cache[donjon/cache.Copy]).Peek
 thn (extV 0 v17) fun v18 =>
 thn (extV 1 v17) fun v19 =>
 alcAt h17 (r11 + 10) (.cells [(I 0), (I 0), (I 0), (I 0)] 46 (0, 0) true) fun p21 h20 =>
 thn (stV h20 4 (pt p21 0 0) v18) fun h22 =>
(thn (extV 1 v17) fun v23 =>
 veq v23 v19 = true) ∧ (
 thn (biI .eql v19 (I 0)) fun v24 =>
 Br v24 (
 A68_2 Q t0 t3 (pt p8 0 0) (pt p21 0 0) h22) (
 A68_3 Q t0 t3 (pt p8 0 0) h22))
) : A68_1 Q t0 t3 h := by intro e he; cases he; exact bF L68 (by kernel_rfl) H
theorem b68_2 {h : AH} {Q : Value → AH → Prop} {t0 t3 t6 t7 : Value} (H :
 thn (padd 2 t7) fun v0 =>
 thn (ldN h 2 v0) fun v1 =>
 thn (padd 2 t6) fun v2 =>
 thn (stV h 2 v2 v1) fun h3 =>
 resv h3 9 fun r5 h4 =>
 thn (nilV t0) fun v6 =>
 thn (padd 0 v6) fun v7 =>
 thn (ld1 h4 v7) fun v8 =>
 thn (padd 2 t3) fun v9 =>
 thn (ld1 h4 v9) fun v10 =>
 thn (ldN h4 4 t6) fun v11 =>
 Cl Pr K 51 [v8, v10, v11] h4 fun v12 h12 => -- (*donjon/tags.Cache[donjon/cache.Copy]).Put
 thn (biI .neq v12 (I 0)) fun v13 =>
 Br v13 (
 Q (.tuple ⟨[(.slice none 0 0), v12]⟩) h12) (
 A68_4 Q t0 t3 h12)
) : A68_2 Q t0 t3 t6 t7 h := by intro e he; cases he; exact bF L68 (by kernel_rfl) H
theorem b68_3 {h : AH} {Q : Value → AH → Prop} {t0 t3 t6 : Value} (H :
 resv h 9 fun r1 h0 =>
 thn (nilV t0) fun v2 =>
 thn (padd 0 v2) fun v3 =>
 thn (ld1 h0 v3) fun v4 =>
 thn (padd 2 t3) fun v5 =>
 thn (ld1 h0 v5) fun v6 =>
 thn (ldN h0 4 t6) fun v7 =>
 Cl Pr K 51 [v4, v6, v7] h0 fun v8 h8 => -- (*donjon/tags.Cache[donjon/cache.Copy]).Put
 thn (biI .neq v8 (I 0)) fun v9 =>
 Br v9 (
 Q (.tuple ⟨[(.slice none 0 0), v8]⟩) h8) (
 A68_4 Q t0 t3 h8)
) : A68_3 Q t0 t3 t6 h := by intro e he; cases he; exact bF L68 (by kernel_rfl) H
theorem b68_4 {h : AH} {Q : Value → AH → Prop} {t0 t3 : Value} (H :
 thn (fillL [(I 0), (.bool false), (.bool false)] []) fun c0 =>
 thn (nilV t0) fun v1 =>
 thn (padd 9 v1) fun v2 =>
 thn (stV h 3 v2 (.agg ⟨c0⟩)) fun h3 =>
 resv h3 10 fun r5 h4 =>
 thn (nilV t0) fun v6 =>
 thn (padd 8 v6) fun v7 =>
 thn (ld1 h4 v7) fun v8 =>
 thn (padd 2 t3) fun v9 =>
 thn (ld1 h4 v9) fun v10 =>
 thn (fillL [(I 0), (I 0), (I 0), (I 0), (I 0), (I 0), (I 0), (.bool false), (I 0)] [(0, 1, (I 4)), (1, 1, v8), (2, 1, v10)]) fun c11 =>
 thn (fillL [(I 0), (I 0), (I 0), (I 0), (I 0), (I 0), (I 0), (.bool false), (I 0)] [(0, 9, (.agg ⟨c11⟩))]) fun l13 =>
 alcSAt h4 (r5 + 7) 9 26 l13 1 1 fun s14 h12 =>
 Q (.tuple ⟨[s14, (I 0)]⟩) h12
) : A68_4 Q t0 t3 h := by intro e he; cases he; exact bF L68 (by kernel_rfl) H
theorem c68 {h : AH} {Q : Value → AH → Prop} {a0 a1 : Value} (H : A68_0 Q a0 a1 h) : Cl Pr K 68 [a0, a1] h Q :=
  ok_enter (by kernel_rfl) (by kernel_rfl) (Eq.mp (by kernel_rfl) (H (fun i => ([a0, a1] : List Value).getD i undef) rfl))

/-! ### 69 (*donjon/cache.Cache).nack: params 2, captured 0, results [tmp 4, tmp 5] -/
noncomputable def L69 : List (Option Nat × List Nat) := [(some 0, [0, 1]), (some 3, [0])]
noncomputable def A69_0 (Q : Value → AH → Prop) (t0 t1 : Value) (h : AH) : Prop := Pt Pr K 69 none (retV Pr 69 Q) 26 [0, 1] [.code (cc 69 2), .code (cc 69 3)] [] [t0, t1] h
noncomputable def A69_1 (Q : Value → AH → Prop) (t0 : Value) (h : AH) : Prop := Pt Pr K 69 none (retV Pr 69 Q) 26 [0] [.code (cc 69 14), .code (cc 69 15)] [] [t0] h
theorem b69_0 {h : AH} {Q : Value → AH → Prop} {t0 t1 : Value} (H :
 thn (blkOf 26 t1) fun b1 =>
 alc h b1 fun p2 h0 =>
 resv h0 16 fun r4 h3 =>
 thn (nilV t0) fun v5 =>
 thn (padd 9 v5) fun v6 =>
 thn (padd 2 v6) fun v7 =>
 thn (ld1 h3 v7) fun v8 =>
 thn (unV .not v8) fun v9 =>
 Br v9 (
 Q (.tuple ⟨[(.slice none 0 0), (I 16)]⟩) h3) (
 thn (nilV t0) fun v10 =>
 thn (padd 9 v10) fun v11 =>
 thn (padd 0 v11) fun v12 =>
 thn (ld1 h3 v12) fun v13 =>
 thn (padd 2 (pt p2 0 0)) fun v14 =>
 thn (ld1 h3 v14) fun v15 =>
 thn (biI .neq v13 v15) fun v16 =>
 Br v16 (
 Q (.tuple ⟨[(.slice none 0 0), (I 16)]⟩) h3) (
 A69_1 Q t0 h3))
) : A69_0 Q t0 t1 h := by intro e he; cases he; exact bF L69 (by kernel_rfl) H
theorem b69_1 {h : AH} {Q : Value → AH → Prop} {t0 : Value} (H :
 thn (fillL [(I 0), (.bool false), (.bool false)] []) fun c0 =>
 thn (nilV t0) fun v1 =>
 thn (padd 9 v1) fun v2 =>
 thn (stV h 3 v2 (.agg ⟨c0⟩)) fun h3 =>
 Q (.tuple ⟨[(.slice none 0 0), (I 0)]⟩) h3
) : A69_1 Q t0 h := by intro e he; cases he; exact bF L69 (by kernel_rfl) H
theorem c69 {h : AH} {Q : Value → AH → Prop} {a0 a1 : Value} (H : A69_0 Q a0 a1 h) : Cl Pr K 69 [a0, a1] h Q :=
  ok_enter (by kernel_rfl) (by kernel_rfl) (Eq.mp (by kernel_rfl) (H (fun i => ([a0, a1] : List Value).getD i undef) rfl))

/-! ### 70 (*donjon/cache.Cache).putAck: params 2, captured 0, results [tmp 4, tmp 5] -/
noncomputable def L70 : List (Option Nat × List Nat) := [(some 0, [0, 1]), (some 3, [0])]
noncomputable def A70_0 (Q : Value → AH → Prop) (t0 t1 : Value) (h : AH) : Prop := Pt Pr K 70 none (retV Pr 70 Q) 26 [0, 1] [.code (cc 70 2), .code (cc 70 3)] [] [t0, t1] h
noncomputable def A70_1 (Q : Value → AH → Prop) (t0 : Value) (h : AH) : Prop := Pt Pr K 70 none (retV Pr 70 Q) 26 [0] [.code (cc 70 14), .code (cc 70 15)] [] [t0] h
theorem b70_0 {h : AH} {Q : Value → AH → Prop} {t0 t1 : Value} (H :
 thn (blkOf 26 t1) fun b1 =>
 alc h b1 fun p2 h0 =>
 resv h0 16 fun r4 h3 =>
 thn (nilV t0) fun v5 =>
 thn (padd 12 v5) fun v6 =>
 thn (padd 5 v6) fun v7 =>
 thn (ld1 h3 v7) fun v8 =>
 thn (unV .not v8) fun v9 =>
 Br v9 (
 Q (.tuple ⟨[(.slice none 0 0), (I 12)]⟩) h3) (
 thn (nilV t0) fun v10 =>
 thn (padd 12 v10) fun v11 =>
 thn (padd 0 v11) fun v12 =>
 thn (ld1 h3 v12) fun v13 =>
 thn (padd 2 (pt p2 0 0)) fun v14 =>
 thn (ld1 h3 v14) fun v15 =>
 thn (biI .neq v13 v15) fun v16 =>
 Br v16 (
 Q (.tuple ⟨[(.slice none 0 0), (I 12)]⟩) h3) (
 A70_1 Q t0 h3))
) : A70_0 Q t0 t1 h := by intro e he; cases he; exact bF L70 (by kernel_rfl) H
theorem b70_1 {h : AH} {Q : Value → AH → Prop} {t0 : Value} (H :
 thn (fillL [(I 0), (I 0), (I 0), (I 0), (I 0), (.bool false)] []) fun c0 =>
 thn (nilV t0) fun v1 =>
 thn (padd 12 v1) fun v2 =>
 thn (stV h 6 v2 (.agg ⟨c0⟩)) fun h3 =>
 Q (.tuple ⟨[(.slice none 0 0), (I 0)]⟩) h3
) : A70_1 Q t0 h := by intro e he; cases he; exact bF L70 (by kernel_rfl) H
theorem c70 {h : AH} {Q : Value → AH → Prop} {a0 a1 : Value} (H : A70_0 Q a0 a1 h) : Cl Pr K 70 [a0, a1] h Q :=
  ok_enter (by kernel_rfl) (by kernel_rfl) (Eq.mp (by kernel_rfl) (H (fun i => ([a0, a1] : List Value).getD i undef) rfl))

/-! ### 71 (*donjon/cache.Cache).probe: params 2, captured 0, results [tmp 4, tmp 5] -/
noncomputable def L71 : List (Option Nat × List Nat) := [(some 0, [0, 1]), (some 3, [0, 3]), (some 7, [0, 3, 6, 7, 9]), (some 10, [0, 3, 6, 7, 9]), (some 9, [0, 3, 6, 7, 9]), (some 13, [0, 3, 6, 7, 9, 10, 11, 12]), (some 15, [0, 3, 6, 7, 9, 10, 12]), (some 16, [0, 3, 6, 7, 9, 10]), (some 19, [0, 6, 7]), (some 20, [0, 3, 6, 7, 10]), (some 21, [0, 3, 6]), (some 17, [0, 3, 6, 7])]
noncomputable def A71_0 (Q : Value → AH → Prop) (t0 t1 : Value) (h : AH) : Prop := Pt Pr K 71 none (retV Pr 71 Q) 116 [0, 1] [.code (cc 71 2), .code (cc 71 3)] [] [t0, t1] h
noncomputable def A71_1 (Q : Value → AH → Prop) (t0 t3 : Value) (h : AH) : Prop := Pt Pr K 71 none (retV Pr 71 Q) 116 [0, 3] [.code (cc 71 14), .code (cc 71 15)] [] [t0, t3] h
noncomputable def A71_2 (Q : Value → AH → Prop) (t0 t3 t6 t7 t9 : Value) (h : AH) : Prop := Pt Pr K 71 none (retV Pr 71 Q) 116 [0, 3, 6, 7, 9] [.code (cc 71 2024), .code (cc 71 2025), .code (cc 71 1013), .code (cc 71 127)] [] [t0, t3, t6, t7, t9] h
noncomputable def A71_3 (Q : Value → AH → Prop) (t0 t3 t6 t7 t9 : Value) (h : AH) : Prop := Pt Pr K 71 none (retV Pr 71 Q) 116 [0, 3, 6, 7, 9] [.code (cc 71 254), .code (cc 71 255)] [] [t0, t3, t6, t7, t9] h
noncomputable def A71_4 (Q : Value → AH → Prop) (t0 t3 t6 t7 t9 : Value) (h : AH) : Prop := Pt Pr K 71 none (retV Pr 71 Q) 116 [0, 3, 6, 7, 9] [.code (cc 71 1013), .code (cc 71 127)] [] [t0, t3, t6, t7, t9] h
noncomputable def A71_5 (Q : Value → AH → Prop) (t0 t3 t6 t7 t9 t10 t11 t12 : Value) (h : AH) : Prop := Pt Pr K 71 none (retV Pr 71 Q) 116 [0, 3, 6, 7, 9, 10, 11, 12] [.code (cc 71 1022), .code (cc 71 1023)] [] [t0, t3, t6, t7, t9, t10, t11, t12] h
noncomputable def A71_6 (Q : Value → AH → Prop) (t0 t3 t6 t7 t9 t10 t12 : Value) (h : AH) : Prop := Pt Pr K 71 none (retV Pr 71 Q) 116 [0, 3, 6, 7, 9, 10, 12] [.code (cc 71 8186), .code (cc 71 2047)] [] [t0, t3, t6, t7, t9, t10, t12] h
noncomputable def A71_7 (Q : Value → AH → Prop) (t0 t3 t6 t7 t9 t10 : Value) (h : AH) : Prop := Pt Pr K 71 none (retV Pr 71 Q) 116 [0, 3, 6, 7, 9, 10] [.code (cc 71 4094), .code (cc 71 4095)] [] [t0, t3, t6, t7, t9, t10] h
noncomputable def A71_8 (Q : Value → AH → Prop) (t0 t6 t7 : Value) (h : AH) : Prop := Pt Pr K 71 none (retV Pr 71 Q) 116 [0, 6, 7] [.code (cc 71 65522), .inBlock 0, .code (cc 71 8191)] [] [t0, t6, t7] h
noncomputable def A71_9 (Q : Value → AH → Prop) (t0 t3 t6 t7 t10 : Value) (h : AH) : Prop := Pt Pr K 71 none (retV Pr 71 Q) 116 [0, 3, 6, 7, 10] [.code (cc 71 131046), .code (cc 71 131047), .inBlock 0, .code (cc 71 8191)] [] [t0, t3, t6, t7, t10] h
noncomputable def A71_10 (Q : Value → AH → Prop) (t0 t3 t6 : Value) (h : AH) : Prop := Pt Pr K 71 none (retV Pr 71 Q) 116 [0, 3, 6] [.code (cc 71 262094), .inBlock 0, .code (cc 71 8191)] [] [t0, t3, t6] h
noncomputable def A71_11 (Q : Value → AH → Prop) (t0 t3 t6 t7 : Value) (h : AH) : Prop := Pt Pr K 71 none (retV Pr 71 Q) 116 [0, 3, 6, 7] [.code (cc 71 262095), .inBlock 0, .code (cc 71 8191)] [] [t0, t3, t6, t7] h
theorem b71_0 {h : AH} {Q : Value → AH → Prop} {t0 t1 : Value} (H :
 thn (blkOf 26 t1) fun b1 =>
 alc h b1 fun p2 h0 =>
 thn (padd 4 (pt p2 0 0)) fun v3 =>
 thn (ld1 h0 v3) fun v4 =>
 thn (biI .neq v4 (I 1)) fun v5 =>
 Br v5 (
 thn (padd 4 (pt p2 0 0)) fun v6 =>
 thn (ld1 h0 v6) fun v7 =>
 thn (biI .neq v7 (I 0)) fun v8 =>
 Br v8 (
 Q (.tuple ⟨[(.slice none 0 0), (I 10)]⟩) h0) (
 A71_1 Q t0 (pt p2 0 0) h0)) (
 resv h0 9 fun r7 h6 =>
 thn (nilV t0) fun v8 =>
 thn (padd 8 v8) fun v9 =>
 thn (ld1 h6 v9) fun v10 =>
 thn (padd 2 (pt p2 0 0)) fun v11 =>
 thn (ld1 h6 v11) fun v12 =>
 thn (fillL [(I 0), (I 0), (I 0), (I 0), (I 0), (I 0), (I 0), (.bool false), (I 0)] [(0, 1, (I 5)), (1, 1, v10), (2, 1, v12)]) fun c13 =>
 alcAt h6 (r7 + 7) (.cells [(I 0), (I 0), (I 0), (I 0), (I 0), (I 0), (I 0), (.bool false), (I 0)] 26 (0, 0) true) fun p15 h14 =>
 thn (stV h14 9 (pt p15 0 0) (.agg ⟨c13⟩)) fun h16 =>
 resv h16 13 fun r18 h17 =>
 thn (nilV t0) fun v19 =>
 thn (padd 0 v19) fun v20 =>
 thn (ld1 h17 v20) fun v21 =>
 thn (padd 2 (pt p2 0 0)) fun v22 =>
 thn (ld1 h17 v22) fun v23 =>
 Cl Pr K 16 [v21, v23] h17 fun v24 h24 => -- (*donjon/tags.Cache[donjon/cache.Copy]).Peek
 thn (extV 0 v24) fun v25 =>
 thn (extV 1 v24) fun v26 =>
 alcAt h24 (r18 + 10) (.cells [(I 0), (I 0), (I 0), (I 0)] 46 (0, 0) true) fun p28 h27 =>
 thn (stV h27 4 (pt p28 0 0) v25) fun h29 =>
(thn (extV 1 v24) fun v30 =>
 veq v30 v26 = true) ∧ (
 thn (biI .eql v26 (I 0)) fun v31 =>
 thn (unV .not v31) fun v32 =>
 Br v32 (
 A71_2 Q t0 (pt p2 0 0) (pt p15 0 0) (pt p28 0 0) v31 h29) (
 A71_3 Q t0 (pt p2 0 0) (pt p15 0 0) (pt p28 0 0) v31 h29)))
) : A71_0 Q t0 t1 h := by intro e he; cases he; exact bF L71 (by kernel_rfl) H
theorem b71_1 {h : AH} {Q : Value → AH → Prop} {t0 t3 : Value} (H :
 resv h 9 fun r1 h0 =>
 thn (nilV t0) fun v2 =>
 thn (padd 8 v2) fun v3 =>
 thn (ld1 h0 v3) fun v4 =>
 thn (padd 2 t3) fun v5 =>
 thn (ld1 h0 v5) fun v6 =>
 thn (fillL [(I 0), (I 0), (I 0), (I 0), (I 0), (I 0), (I 0), (.bool false), (I 0)] [(0, 1, (I 5)), (1, 1, v4), (2, 1, v6)]) fun c7 =>
 alcAt h0 (r1 + 7) (.cells [(I 0), (I 0), (I 0), (I 0), (I 0), (I 0), (I 0), (.bool false), (I 0)] 26 (0, 0) true) fun p9 h8 =>
 thn (stV h8 9 (pt p9 0 0) (.agg ⟨c7⟩)) fun h10 =>
 resv h10 13 fun r12 h11 =>
 thn (nilV t0) fun v13 =>
 thn (padd 0 v13) fun v14 =>
 thn (ld1 h11 v14) fun v15 =>
 thn (padd 2 t3) fun v16 =>
 thn (ld1 h11 v16) fun v17 =>
 Cl Pr K 16 [v15, v17] h11 fun v18 h18 => -- (*donjon/tags.Cache[donjon/cache.Copy]).Peek
 thn (extV 0 v18) fun v19 =>
 thn (extV 1 v18) fun v20 =>
 alcAt h18 (r12 + 10) (.cells [(I 0), (I 0), (I 0), (I 0)] 46 (0, 0) true) fun p22 h21 =>
 thn (stV h21 4 (pt p22 0 0) v19) fun h23 =>
(thn (extV 1 v18) fun v24 =>
 veq v24 v20 = true) ∧ (
 thn (biI .eql v20 (I 0)) fun v25 =>
 thn (unV .not v25) fun v26 =>
 Br v26 (
 A71_2 Q t0 t3 (pt p9 0 0) (pt p22 0 0) v25 h23) (
 A71_3 Q t0 t3 (pt p9 0 0) (pt p22 0 0) v25 h23))
) : A71_1 Q t0 t3 h := by intro e he; cases he; exact bF L71 (by kernel_rfl) H
theorem b71_2 {h : AH} {Q : Value → AH → Prop} {t0 t3 t6 t7 t9 : Value} (H :
 resv h 16 fun r1 h0 =>
 thn (nilV t0) fun v2 =>
 thn (padd 12 v2) fun v3 =>
 thn (padd 5 v3) fun v4 =>
 thn (ld1 h0 v4) fun v5 =>
 thn (unV .not v5) fun v6 =>
 Br v6 (
 thn (ldN h0 9 t6) fun v7 =>
 thn (fillL [(I 0), (I 0), (I 0), (I 0), (I 0), (I 0), (I 0), (.bool false), (I 0)] [(0, 9, v7)]) fun l9 =>
 alcS h0 9 26 l9 1 1 fun s10 h8 =>
 Q (.tuple ⟨[s10, (I 0)]⟩) h8) (
 thn (nilV t0) fun v7 =>
 thn (padd 12 v7) fun v8 =>
 thn (padd 0 v8) fun v9 =>
 thn (ld1 h0 v9) fun v10 =>
 thn (padd 2 t3) fun v11 =>
 thn (ld1 h0 v11) fun v12 =>
 thn (biI .neq v10 v12) fun v13 =>
 Br v13 (
 thn (ldN h0 9 t6) fun v14 =>
 thn (fillL [(I 0), (I 0), (I 0), (I 0), (I 0), (I 0), (I 0), (.bool false), (I 0)] [(0, 9, v14)]) fun l16 =>
 alcS h0 9 26 l16 1 1 fun s17 h15 =>
 Q (.tuple ⟨[s17, (I 0)]⟩) h15) (
 A71_4 Q t0 t3 t6 t7 t9 h0))
) : A71_2 Q t0 t3 t6 t7 t9 h := by intro e he; cases he; exact bF L71 (by kernel_rfl) H
theorem b71_3 {h : AH} {Q : Value → AH → Prop} {t0 t3 t6 t7 t9 : Value} (H :
 thn (padd 0 t7) fun v0 =>
 thn (ld1 h v0) fun v1 =>
 thn (padd 4 t3) fun v2 =>
 thn (ld1 h v2) fun v3 =>
 Cl Pr K 90 [v1, v3] h fun v4 h4 => -- donjon/moesi.Probe
 thn (extV 0 v4) fun v5 =>
 thn (extV 1 v4) fun v6 =>
 thn (extV 2 v4) fun v7 =>
 thn (extV 3 v4) fun v8 =>
 thn (biI .neq v8 (I 0)) fun v9 =>
 Br v9 (
 Q (.tuple ⟨[(.slice none 0 0), v8]⟩) h4) (
 A71_5 Q t0 t3 t6 t7 t9 v5 v6 v7 h4)
) : A71_3 Q t0 t3 t6 t7 t9 h := by intro e he; cases he; exact bF L71 (by kernel_rfl) H
theorem b71_4 {h : AH} {Q : Value → AH → Prop} {t0 t3 t6 t7 t9 : Value} (H :
 thn (nilV t0) fun v0 =>
 thn (padd 12 v0) fun v1 =>
 thn (padd 1 v1) fun v2 =>
 thn (ldN h 4 v2) fun v3 =>
 thn (stV h 4 t7 v3) fun h4 =>
 thn (padd 0 t7) fun v5 =>
 thn (ld1 h4 v5) fun v6 =>
 thn (padd 4 t3) fun v7 =>
 thn (ld1 h4 v7) fun v8 =>
 Cl Pr K 90 [v6, v8] h4 fun v9 h9 => -- donjon/moesi.Probe
 thn (extV 0 v9) fun v10 =>
 thn (extV 1 v9) fun v11 =>
 thn (extV 2 v9) fun v12 =>
 thn (extV 3 v9) fun v13 =>
 thn (biI .neq v13 (I 0)) fun v14 =>
 Br v14 (
 Q (.tuple ⟨[(.slice none 0 0), v13]⟩) h9) (
 A71_5 Q t0 t3 t6 t7 t9 v10 v11 v12 h9)
) : A71_4 Q t0 t3 t6 t7 t9 h := by intro e he; cases he; exact bF L71 (by kernel_rfl) H
theorem b71_5 {h : AH} {Q : Value → AH → Prop} {t0 t3 t6 t7 t9 t10 t11 t12 : Value} (H :
 thn (padd 4 t6) fun v0 =>
 thn (stV h 1 v0 t10) fun h1 =>
 Br t11 (
 A71_6 Q t0 t3 t6 t7 t9 t10 t12 h1) (
 A71_7 Q t0 t3 t6 t7 t9 t10 h1)
) : A71_5 Q t0 t3 t6 t7 t9 t10 t11 t12 h := by intro e he; cases he; exact bF L71 (by kernel_rfl) H
theorem b71_6 {h : AH} {Q : Value → AH → Prop} {t0 t3 t6 t7 t9 t10 t12 : Value} (H :
 thn (padd 2 t7) fun v0 =>
 thn (ldN h 2 v0) fun v1 =>
 thn (padd 5 t6) fun v2 =>
 thn (stV h 2 v2 v1) fun h3 =>
 thn (padd 7 t6) fun v4 =>
 thn (stV h3 1 v4 t12) fun h5 =>
 thn (padd 0 t7) fun v6 =>
 thn (stV h5 1 v6 t10) fun h7 =>
 thn (unV .not t9) fun v8 =>
 Br v8 (
 A71_8 Q t0 t6 t7 h7) (
 A71_9 Q t0 t3 t6 t7 t10 h7)
) : A71_6 Q t0 t3 t6 t7 t9 t10 t12 h := by intro e he; cases he; exact bF L71 (by kernel_rfl) H
theorem b71_7 {h : AH} {Q : Value → AH → Prop} {t0 t3 t6 t7 t9 t10 : Value} (H :
 thn (padd 0 t7) fun v0 =>
 thn (stV h 1 v0 t10) fun h1 =>
 thn (unV .not t9) fun v2 =>
 Br v2 (
 A71_8 Q t0 t6 t7 h1) (
 A71_9 Q t0 t3 t6 t7 t10 h1)
) : A71_7 Q t0 t3 t6 t7 t9 t10 h := by intro e he; cases he; exact bF L71 (by kernel_rfl) H
theorem b71_8 {h : AH} {Q : Value → AH → Prop} {t0 t6 t7 : Value} (H :
 thn (ldN h 4 t7) fun v0 =>
 thn (nilV t0) fun v1 =>
 thn (padd 12 v1) fun v2 =>
 thn (padd 1 v2) fun v3 =>
 thn (stV h 4 v3 v0) fun h4 =>
 thn (ldN h4 9 t6) fun v5 =>
 thn (fillL [(I 0), (I 0), (I 0), (I 0), (I 0), (I 0), (I 0), (.bool false), (I 0)] [(0, 9, v5)]) fun l7 =>
 alcS h4 9 26 l7 1 1 fun s8 h6 =>
 Q (.tuple ⟨[s8, (I 0)]⟩) h6
) : A71_8 Q t0 t6 t7 h := by intro e he; cases he; exact bF L71 (by kernel_rfl) H
theorem b71_9 {h : AH} {Q : Value → AH → Prop} {t0 t3 t6 t7 t10 : Value} (H :
 thn (biI .eql t10 (I 0)) fun v0 =>
 Br v0 (
 A71_10 Q t0 t3 t6 h) (
 A71_11 Q t0 t3 t6 t7 h)
) : A71_9 Q t0 t3 t6 t7 t10 h := by intro e he; cases he; exact bF L71 (by kernel_rfl) H
theorem b71_10 {h : AH} {Q : Value → AH → Prop} {t0 t3 t6 : Value} (H :
 resv h 7 fun r1 h0 =>
 thn (nilV t0) fun v2 =>
 thn (padd 0 v2) fun v3 =>
 thn (ld1 h0 v3) fun v4 =>
 thn (padd 2 t3) fun v5 =>
 thn (ld1 h0 v5) fun v6 =>
 Cl Pr K 46 [v4, v6] h0 fun v7 h7 => -- (*donjon/tags.Cache[donjon/cache.Copy]).Drop
 thn (ldN h7 9 t6) fun v8 =>
 thn (fillL [(I 0), (I 0), (I 0), (I 0), (I 0), (I 0), (I 0), (.bool false), (I 0)] [(0, 9, v8)]) fun l10 =>
 alcS h7 9 26 l10 1 1 fun s11 h9 =>
 Q (.tuple ⟨[s11, (I 0)]⟩) h9
) : A71_10 Q t0 t3 t6 h := by intro e he; cases he; exact bF L71 (by kernel_rfl) H
theorem b71_11 {h : AH} {Q : Value → AH → Prop} {t0 t3 t6 t7 : Value} (H :
 resv h 8 fun r1 h0 =>
 thn (nilV t0) fun v2 =>
 thn (padd 0 v2) fun v3 =>
 thn (ld1 h0 v3) fun v4 =>
 thn (padd 2 t3) fun v5 =>
 thn (ld1 h0 v5) fun v6 =>
 thn (ldN h0 4 t7) fun v7 =>
 Cl Pr K 51 [v4, v6, v7] h0 fun v8 h8 => -- (*donjon/tags.Cache[donjon/cache.Copy]).Put
 thn (ldN h8 9 t6) fun v9 =>
 thn (fillL [(I 0), (I 0), (I 0), (I 0), (I 0), (I 0), (I 0), (.bool false), (I 0)] [(0, 9, v9)]) fun l11 =>
 alcS h8 9 26 l11 1 1 fun s12 h10 =>
 Q (.tuple ⟨[s12, (I 0)]⟩) h10
) : A71_11 Q t0 t3 t6 t7 h := by intro e he; cases he; exact bF L71 (by kernel_rfl) H
theorem c71 {h : AH} {Q : Value → AH → Prop} {a0 a1 : Value} (H : A71_0 Q a0 a1 h) : Cl Pr K 71 [a0, a1] h Q :=
  ok_enter (by kernel_rfl) (by kernel_rfl) (Eq.mp (by kernel_rfl) (H (fun i => ([a0, a1] : List Value).getD i undef) rfl))

/-! ### 72 donjon/place.Lines: params 1, captured 0, results [tmp 2] -/
noncomputable def L72 : List (Option Nat × List Nat) := [(some 0, [0])]
noncomputable def A72_0 (Q : Value → AH → Prop) (t0 : Value) (h : AH) : Prop := Pt Pr K 72 none (retV Pr 72 Q) 9 [0] [.code (cc 72 2), .code (cc 72 3)] [] [t0] h
theorem b72_0 {h : AH} {Q : Value → AH → Prop} {t0 : Value} (H :
 thn (blkOf 36 t0) fun b1 =>
 alc h b1 fun p2 h0 =>
 thn (ldN h0 7 (pt p2 0 0)) fun v3 =>
 Cl Pr K 23 [v3] h0 fun v4 h4 => -- donjon/place.Check
 thn (biI .neq v4 (I 0)) fun v5 =>
 Br v5 (
 Q (I 0) h4) (
 thn (padd 1 (pt p2 0 0)) fun v6 =>
 thn (ld1 h4 v6) fun v7 =>
 thn (biI .mul v7 (I 2)) fun v8 =>
 Q v8 h4)
) : A72_0 Q t0 h := by intro e he; cases he; exact bF L72 (by kernel_rfl) H
theorem c72 {h : AH} {Q : Value → AH → Prop} {a0 : Value} (H : A72_0 Q a0 h) : Cl Pr K 72 [a0] h Q :=
  ok_enter (by kernel_rfl) (by kernel_rfl) (Eq.mp (by kernel_rfl) (H (fun i => ([a0] : List Value).getD i undef) rfl))

/-! ### 73 (*donjon/tags.Cache[donjon/cache.Copy]).find$1: params 1, captured 1, results [tmp 3] -/
noncomputable def L73 : List (Option Nat × List Nat) := [(some 0, [0, 1])]
noncomputable def A73_0 (Q : Value → AH → Prop) (t0 t1 : Value) (h : AH) : Prop := Pt Pr K 73 none (retV Pr 73 Q) 8 [0, 1] [.code (cc 73 2), .code (cc 73 3)] [] [t0, t1] h
theorem b73_0 {h : AH} {Q : Value → AH → Prop} {t0 t1 : Value} (H :
 thn (blkOf 113 t0) fun b1 =>
 alc h b1 fun p2 h0 =>
 thn (padd 0 (pt p2 0 0)) fun v3 =>
 thn (ld1 h0 v3) fun v4 =>
 thn (ld1 h0 t1) fun v5 =>
 thn (biI .eql v4 v5) fun v6 =>
 Q v6 h0
) : A73_0 Q t0 t1 h := by intro e he; cases he; exact bF L73 (by kernel_rfl) H
theorem c73 {h : AH} {Q : Value → AH → Prop} {a0 a1 : Value} (H : A73_0 Q a0 a1 h) : Cl Pr K 73 [a0, a1] h Q :=
  ok_enter (by kernel_rfl) (by kernel_rfl) (Eq.mp (by kernel_rfl) (H (fun i => ([a0, a1] : List Value).getD i undef) rfl))

/-! ### 74 donjon/moesi.Store: params 1, captured 0, results [tmp 2] -/
noncomputable def L74 : List (Option Nat × List Nat) := [(some 0, [0])]
noncomputable def A74_0 (Q : Value → AH → Prop) (t0 : Value) (h : AH) : Prop := Pt Pr K 74 none (retV Pr 74 Q) 11 [0] [.code (cc 74 2), .code (cc 74 3)] [] [t0] h
theorem b74_0 {h : AH} {Q : Value → AH → Prop} {t0 : Value} (H :
 Cl Pr K 60 [t0] h fun v0 h0 => -- donjon/moesi.is
 Br v0 (
 thn (idxA 5 8 (.pointer (some ⟨1, 0, none⟩)) t0) fun v1 =>
 thn (padd 2 v1) fun v2 =>
 thn (ld1 h0 v2) fun v3 =>
 Q v3 h0) (
 Q (.bool false) h0)
) : A74_0 Q t0 h := by intro e he; cases he; exact bF L74 (by kernel_rfl) H
theorem c74 {h : AH} {Q : Value → AH → Prop} {a0 : Value} (H : A74_0 Q a0 h) : Cl Pr K 74 [a0] h Q :=
  ok_enter (by kernel_rfl) (by kernel_rfl) (Eq.mp (by kernel_rfl) (H (fun i => ([a0] : List Value).getD i undef) rfl))

/-! ### 75 donjon/moesi.Load: params 1, captured 0, results [tmp 2] -/
noncomputable def L75 : List (Option Nat × List Nat) := [(some 0, [0])]
noncomputable def A75_0 (Q : Value → AH → Prop) (t0 : Value) (h : AH) : Prop := Pt Pr K 75 none (retV Pr 75 Q) 11 [0] [.code (cc 75 2), .code (cc 75 3)] [] [t0] h
theorem b75_0 {h : AH} {Q : Value → AH → Prop} {t0 : Value} (H :
 Cl Pr K 60 [t0] h fun v0 h0 => -- donjon/moesi.is
 Br v0 (
 thn (idxA 5 8 (.pointer (some ⟨1, 0, none⟩)) t0) fun v1 =>
 thn (padd 1 v1) fun v2 =>
 thn (ld1 h0 v2) fun v3 =>
 Q v3 h0) (
 Q (.bool false) h0)
) : A75_0 Q t0 h := by intro e he; cases he; exact bF L75 (by kernel_rfl) H
theorem c75 {h : AH} {Q : Value → AH → Prop} {a0 : Value} (H : A75_0 Q a0 h) : Cl Pr K 75 [a0] h Q :=
  ok_enter (by kernel_rfl) (by kernel_rfl) (Eq.mp (by kernel_rfl) (H (fun i => ([a0] : List Value).getD i undef) rfl))

/-! ### 76 slices.Delete[[]donjon/tags.thing[donjon/cache.Copy],donjon/tags.thing[donjon/cache.Copy]]: params 3, captured 0, results [tmp 6] -/
noncomputable def L76 : List (Option Nat × List Nat) := [(some 0, [0, 1, 2]), (some 4, [0, 1, 2])]
noncomputable def A76_0 (Q : Value → AH → Prop) (t0 t1 t2 : Value) (h : AH) : Prop := Pt Pr K 76 none (retV Pr 76 Q) 33 [0, 1, 2] [.code (cc 76 2), .code (cc 76 3)] [] [t0, t1, t2] h
noncomputable def A76_1 (Q : Value → AH → Prop) (t0 t1 t2 : Value) (h : AH) : Prop := Pt Pr K 76 none (retV Pr 76 Q) 33 [0, 1, 2] [.code (cc 76 30), .code (cc 76 31)] [] [t0, t1, t2] h
theorem b76_0 {h : AH} {Q : Value → AH → Prop} {t0 t1 t2 : Value} (H :
 thn (lenS t0) fun v0 =>
 thn (slS 5 h t0 (some t1) (some t2) (some v0)) fun v1 =>
 thn (biI .eql t1 t2) fun v2 =>
 Br v2 (
 Q t0 h) (
 A76_1 Q t0 t1 t2 h)
) : A76_0 Q t0 t1 t2 h := by intro e he; cases he; exact bF L76 (by kernel_rfl) H
theorem b76_1 {h : AH} {Q : Value → AH → Prop} {t0 t1 t2 : Value} (H :
 thn (lenS t0) fun v0 =>
 resv h 8 fun r2 h1 =>
 thn (slS 5 h1 t0 none (some t1) none) fun v3 =>
 thn (slS 5 h1 t0 (some t2) none none) fun v4 =>
 thn (appV 5 40 113 h1 v3 v4) fun r5 => (fun v6 h7 =>
 thn (lenS v6) fun v8 =>
 thn (slS 5 h7 v6 (some v8) (some v0) none) fun v9 =>
 thn (clearV [(I 0), (I 0), (I 0), (I 0), (I 0)] h7 v9) fun r10 => (fun v11 h12 =>
 Q v6 h12) r10.1 r10.2) r5.1 r5.2
) : A76_1 Q t0 t1 t2 h := by intro e he; cases he; exact bF L76 (by kernel_rfl) H
theorem c76 {h : AH} {Q : Value → AH → Prop} {a0 a1 a2 : Value} (H : A76_0 Q a0 a1 a2 h) : Cl Pr K 76 [a0, a1, a2] h Q :=
  ok_enter (by kernel_rfl) (by kernel_rfl) (Eq.mp (by kernel_rfl) (H (fun i => ([a0, a1, a2] : List Value).getD i undef) rfl))

/-! ### 85 donjon/moesi.Owner: params 1, captured 0, results [tmp 2] -/
noncomputable def L85 : List (Option Nat × List Nat) := [(some 0, [0])]
noncomputable def A85_0 (Q : Value → AH → Prop) (t0 : Value) (h : AH) : Prop := Pt Pr K 85 none (retV Pr 85 Q) 11 [0] [.code (cc 85 2), .code (cc 85 3)] [] [t0] h
theorem b85_0 {h : AH} {Q : Value → AH → Prop} {t0 : Value} (H :
 Cl Pr K 60 [t0] h fun v0 h0 => -- donjon/moesi.is
 Br v0 (
 thn (idxA 5 8 (.pointer (some ⟨1, 0, none⟩)) t0) fun v1 =>
 thn (padd 4 v1) fun v2 =>
 thn (ld1 h0 v2) fun v3 =>
 Q v3 h0) (
 Q (.bool false) h0)
) : A85_0 Q t0 h := by intro e he; cases he; exact bF L85 (by kernel_rfl) H
theorem c85 {h : AH} {Q : Value → AH → Prop} {a0 : Value} (H : A85_0 Q a0 h) : Cl Pr K 85 [a0] h Q :=
  ok_enter (by kernel_rfl) (by kernel_rfl) (Eq.mp (by kernel_rfl) (H (fun i => ([a0] : List Value).getD i undef) rfl))

/-! ### 89 donjon/donjonref13.behind: params 2, captured 0, results [tmp 4] -/
noncomputable def L89 : List (Option Nat × List Nat) := [(some 0, [0, 1]), (some 3, [0])]
noncomputable def A89_0 (Q : Value → AH → Prop) (t0 t1 : Value) (h : AH) : Prop := Pt Pr K 89 none (retV Pr 89 Q) 13 [0, 1] [.code (cc 89 2), .code (cc 89 3)] [] [t0, t1] h
noncomputable def A89_1 (Q : Value → AH → Prop) (t0 : Value) (h : AH) : Prop := Pt Pr K 89 none (retV Pr 89 Q) 13 [0] [.code (cc 89 28), .code (cc 89 29), .code (cc 89 15)] [] [t0] h
theorem b89_0 {h : AH} {Q : Value → AH → Prop} {t0 t1 : Value} (H :
 thn (biI .eql t1 (I 0)) fun v0 =>
 Br v0 (
 Q (I 0) h) (
 thn (biI .eql t0 (I 0)) fun v1 =>
 Br v1 (
 Q (I 0) h) (
 A89_1 Q t0 h))
) : A89_0 Q t0 t1 h := by intro e he; cases he; exact bF L89 (by kernel_rfl) H
theorem b89_1 {h : AH} {Q : Value → AH → Prop} {t0 : Value} (H :
 thn (biI .geq t0 (I 3)) fun v0 =>
 Br v0 (
 Q (I 3) h) (
 Q (I 1) h)
) : A89_1 Q t0 h := by intro e he; cases he; exact bF L89 (by kernel_rfl) H
theorem c89 {h : AH} {Q : Value → AH → Prop} {a0 a1 : Value} (H : A89_0 Q a0 a1 h) : Cl Pr K 89 [a0, a1] h Q :=
  ok_enter (by kernel_rfl) (by kernel_rfl) (Eq.mp (by kernel_rfl) (H (fun i => ([a0, a1] : List Value).getD i undef) rfl))

/-! ### 90 donjon/moesi.Probe: params 2, captured 0, results [tmp 4, tmp 5, tmp 6, tmp 7] -/
noncomputable def L90 : List (Option Nat × List Nat) := [(some 0, [0, 1]), (some 3, [0, 1]), (some 5, [0])]
noncomputable def A90_0 (Q : Value → AH → Prop) (t0 t1 : Value) (h : AH) : Prop := Pt Pr K 90 none (retV Pr 90 Q) 34 [0, 1] [.code (cc 90 2), .code (cc 90 3)] [] [t0, t1] h
noncomputable def A90_1 (Q : Value → AH → Prop) (t0 t1 : Value) (h : AH) : Prop := Pt Pr K 90 none (retV Pr 90 Q) 34 [0, 1] [.code (cc 90 14), .code (cc 90 15)] [] [t0, t1] h
noncomputable def A90_2 (Q : Value → AH → Prop) (t0 : Value) (h : AH) : Prop := Pt Pr K 90 none (retV Pr 90 Q) 34 [0] [.code (cc 90 122), .code (cc 90 31)] [] [t0] h
theorem b90_0 {h : AH} {Q : Value → AH → Prop} {t0 t1 : Value} (H :
 Cl Pr K 60 [t0] h fun v0 h0 => -- donjon/moesi.is
 thn (unV .not v0) fun v1 =>
 Br v1 (
 Q (.tuple ⟨[(I 0), (.bool false), (.bool false), (I 10)]⟩) h0) (
 thn (biI .neq t1 (I 1)) fun v2 =>
 Br v2 (
 thn (biI .neq t1 (I 0)) fun v3 =>
 Br v3 (
 Q (.tuple ⟨[(I 0), (.bool false), (.bool false), (I 10)]⟩) h0) (
 A90_1 Q t0 t1 h0)) (
 thn (idxA 5 8 (.pointer (some ⟨1, 0, none⟩)) t0) fun v3 =>
 thn (padd 7 v3) fun v4 =>
 thn (ld1 h0 v4) fun v5 =>
 thn (biI .eql t1 (I 1)) fun v6 =>
 Br v6 (
 A90_2 Q t0 h0) (
 Cl Pr K 85 [t0] h0 fun v7 h7 => -- donjon/moesi.Owner
 Cl Pr K 47 [t0] h7 fun v8 h8 => -- donjon/moesi.Dirty
 Q (.tuple ⟨[v5, v7, v8, (I 0)]⟩) h8)))
) : A90_0 Q t0 t1 h := by intro e he; cases he; exact bF L90 (by kernel_rfl) H
theorem b90_1 {h : AH} {Q : Value → AH → Prop} {t0 t1 : Value} (H :
 thn (idxA 5 8 (.pointer (some ⟨1, 0, none⟩)) t0) fun v0 =>
 thn (padd 7 v0) fun v1 =>
 thn (ld1 h v1) fun v2 =>
 thn (biI .eql t1 (I 1)) fun v3 =>
 Br v3 (
 A90_2 Q t0 h) (
 Cl Pr K 85 [t0] h fun v4 h4 => -- donjon/moesi.Owner
 Cl Pr K 47 [t0] h4 fun v5 h5 => -- donjon/moesi.Dirty
 Q (.tuple ⟨[v2, v4, v5, (I 0)]⟩) h5)
) : A90_1 Q t0 t1 h := by intro e he; cases he; exact bF L90 (by kernel_rfl) H
theorem b90_2 {h : AH} {Q : Value → AH → Prop} {t0 : Value} (H :
 thn (idxA 5 8 (.pointer (some ⟨1, 0, none⟩)) t0) fun v0 =>
 thn (padd 6 v0) fun v1 =>
 thn (ld1 h v1) fun v2 =>
 Cl Pr K 85 [t0] h fun v3 h3 => -- donjon/moesi.Owner
 Cl Pr K 47 [t0] h3 fun v4 h4 => -- donjon/moesi.Dirty
 Q (.tuple ⟨[v2, v3, v4, (I 0)]⟩) h4
) : A90_2 Q t0 h := by intro e he; cases he; exact bF L90 (by kernel_rfl) H
theorem c90 {h : AH} {Q : Value → AH → Prop} {a0 a1 : Value} (H : A90_0 Q a0 a1 h) : Cl Pr K 90 [a0, a1] h Q :=
  ok_enter (by kernel_rfl) (by kernel_rfl) (Eq.mp (by kernel_rfl) (H (fun i => ([a0, a1] : List Value).getD i undef) rfl))

end Go.Proofs.YtfkjpjkkjlipiaaDoor
end
