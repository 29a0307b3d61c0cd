/- A part of the proof. -/
import Derived.Test.YtagcnlaofkfpjaaDoorChecked
import Derived.Test.YtagcnlaofkfpjaaDoorB4
import Derived.KernelRfl
section
namespace Go.Proofs.YtagcnlaofkfpjaaDoor
open Go Go.Ab
set_option maxRecDepth 100000
noncomputable abbrev Pr : Program := Tryd.prog
noncomputable def cc (f n : Nat) : Code := cd Pr f (dcd n)
/-- the judge is asked: what the rule answers -/
noncomputable def K0 : FuncId → List Value → Option Ans := fun f args => match f, args with
  | 33, [.iface 24 v, w, l] => some (.fwd 41 [v, w, l])
  | _, _ => none
noncomputable def K : FuncId → List Value → Option Ans := addK K0 9 (.bool true)
/-! ### 7 donjon/home.New: params 1, captured 0, results [tmp 2, tmp 3] -/
noncomputable def L7 : List (Option Nat × List Nat) := [(some 0, [0]), (some 4, [1]), (some 7, [1, 5]), (some 9, [7, 33, 34]), (some 10, [7, 33, 34])]
noncomputable def A7_0 (Q : Value → AH → Prop) (t0 : Value) (h : AH) : Prop := Pt Pr K 7 none (retV Pr 7 Q) 46 [0] [.code (cc 7 2), .code (cc 7 3)] [] [t0] h
noncomputable def A7_1 (Q : Value → AH → Prop) (t1 : Value) (h : AH) : Prop := Pt Pr K 7 none (retV Pr 7 Q) 46 [1] [.code (cc 7 14), .code (cc 7 15)] [] [t1] h
noncomputable def A7_2 (Q : Value → AH → Prop) (t1 t5 : Value) (h : AH) : Prop := Pt Pr K 7 none (retV Pr 7 Q) 46 [1, 5] [.code (cc 7 62), .code (cc 7 63)] [] [t1, t5] h
noncomputable def A7_3 (Q : Value → AH → Prop) (t7 t33 t34 : Value) (h : AH) : Prop := Pt Pr K 7 none (retV Pr 7 Q) 46 [7, 33, 34] [.code (cc 7 2024), .code (cc 7 2025), .inLoop (cc 7 1012), .inBlock 0, .code (cc 7 127)] [] [t7, t33, t34] h
noncomputable def A7_4 (Q : Value → AH → Prop) (t7 t33 t34 : Value) (h : AH) : Prop := Pt Pr K 7 none (retV Pr 7 Q) 46 [7, 33, 34] [.code (cc 7 32408), .code (cc 7 32409), .inBlock 1, .code (cc 7 8103), .inLoop (cc 7 1012), .inBlock 0, .code (cc 7 127)] [] [t7, t33, t34] h
theorem b7_0 {h : AH} {Q : Value → AH → Prop} {t0 : Value} (H :
 thn (blkOf 30 t0) fun b1 =>
 alc h b1 fun p2 h0 =>
 thn (ldN h0 7 (pt p2 0 0)) fun v3 =>
 Cl Pr K 25 [v3] h0 fun v4 h4 => -- donjon/place.Check
 thn (biI .neq v4 (I 0)) fun v5 =>
 Br v5 (
 Q (.tuple ⟨[(.pointer none), v4]⟩) h4) (
 A7_1 Q (pt p2 0 0) h4)
) : A7_0 Q t0 h := by intro e he; cases he; exact bF L7 (by kernel_rfl) H
theorem b7_1 {h : AH} {Q : Value → AH → Prop} {t1 : Value} (H :
 thn (ldN h 7 t1) fun v0 =>
 Cl Pr K 26 [v0] h fun v1 h1 => -- donjon/bank.New
 thn (extV 0 v1) fun v2 =>
 thn (extV 1 v1) fun v3 =>
 thn (biI .neq v3 (I 0)) fun v4 =>
 Br v4 (
 Q (.tuple ⟨[(.pointer none), v3]⟩) h1) (
 A7_2 Q t1 v2 h1)
) : A7_1 Q t1 h := by intro e he; cases he; exact bF L7 (by kernel_rfl) H
theorem b7_2 {h : AH} {Q : Value → AH → Prop} {t1 t5 : Value} (H :
 resv h 8 fun r1 h0 =>
 thn (ldN h0 7 t1) fun v2 =>
 thn (ldN h0 7 t1) fun v3 =>
 Cl Pr K 27 [v3] h0 fun v4 h4 => -- donjon/place.Lines
 thn (mkS 152 v4 v4) fun n6 =>
 alcSAt h4 (r1 + 4) 25 73 (zerosA [(I 0), (.bool false), (.bool false), (.bool false), (.bool false), (.slice none 0 0), (.bool false), (I 0), (I 0), (I 0), (I 0), (I 0), (I 0), (I 0), (.bool false), (I 0), (I 0), (.bool false), (.bool false), (.bool false), (.bool false), (.bool false), (.bool false), (I 0), (I 0)] n6.2) n6.1 n6.2 fun s7 h5 =>
 thn (fillL [(.pointer none), (I 0), (I 0), (I 0), (I 0), (I 0), (I 0), (I 0), (.slice none 0 0)] [(0, 1, t5), (1, 7, v2), (8, 1, s7)]) fun c8 =>
 thn (blkOf 59 (.agg ⟨c8⟩)) fun b10 =>
 alcAt h5 (r1 + 6) b10 fun p11 h9 =>
(veq t5 t5 = true) ∧ (
(thn (ldN h9 7 t1) fun v12 =>
 veq v12 v2 = true) ∧ (
 thn (nilV (pt p11 0 0)) fun v13 =>
 thn (padd 8 v13) fun v14 =>
 thn (ld1 h9 v14) fun v15 =>
 thn (lenS v15) fun v16 =>
 A7_3 Q (pt p11 0 0) v16 (I 0) h9))
) : A7_2 Q t1 t5 h := by intro e he; cases he; exact bF L7 (by kernel_rfl) H
theorem b7_3 {h : AH} {Q : Value → AH → Prop} {t7 t33 t34 : Value} (H :
 thn (biI .lss t34 t33) fun v0 =>
 Br v0 (
 A7_4 Q t7 t33 t34 h) (
 Q (.tuple ⟨[t7, (I 0)]⟩) h)
) : A7_3 Q t7 t33 t34 h := by intro e he; cases he; exact bF L7 (by kernel_rfl) H
theorem b7_4 {h : AH} {Q : Value → AH → Prop} {t7 t33 t34 : Value} (H :
 thn (nilV t7) fun v0 =>
 thn (padd 8 v0) fun v1 =>
 thn (ld1 h v1) fun v2 =>
 thn (idxS 25 v2 t34) fun v3 =>
 thn (padd 0 v3) fun v4 =>
 thn (stV h 1 v4 (I (-1))) fun h5 =>
 thn (biI .add t34 (I 1)) fun v6 =>
 A7_3 Q t7 t33 v6 h5
) : A7_4 Q t7 t33 t34 h := by intro e he; cases he; exact bF L7 (by kernel_rfl) H
theorem c7 {h : AH} {Q : Value → AH → Prop} {a0 : Value} (H : A7_0 Q a0 h) : Cl Pr K 7 [a0] h Q :=
  ok_enter (by kernel_rfl) (by kernel_rfl) (Eq.mp (by kernel_rfl) (H (fun i => ([a0] : List Value).getD i undef) rfl))

/-! ### 8 donjon/donjonlaw12.small: params 0, captured 0, results [cell 0 : 30] -/
noncomputable def L8 : List (Option Nat × List Nat) := [(some 0, [])]
noncomputable def A8_0 (Q : Value → AH → Prop) (h : AH) : Prop := Pt Pr K 8 none (retV Pr 8 Q) 2 [] [.code (cc 8 2), .code (cc 8 3)] [] [] h
theorem b8_0 {h : AH} {Q : Value → AH → Prop} (H :
 alc h (.cells [(I 0), (I 0), (I 0), (I 0), (I 0), (I 0), (I 0)] 30 (0, 0) true) fun p1 h0 =>
 thn (fillL [(I 0), (I 0), (I 0), (I 0), (I 0), (I 0), (I 0)] [(0, 1, (I 3)), (1, 1, (I 2)), (2, 1, (I 1)), (3, 1, (I 1)), (4, 1, (I 4)), (5, 1, (I 2)), (6, 1, (I 2))]) fun c2 =>
 thn (stV h0 7 (pt p1 0 0) (.agg ⟨c2⟩)) fun h3 =>
 thn (ldN h3 7 (pt p1 0 0)) fun v4 =>
 Q v4 h3
) : A8_0 Q  h := by intro e _; exact bF L8 (by kernel_rfl) H
theorem c8 {h : AH} {Q : Value → AH → Prop} (H : A8_0 Q  h) : Cl Pr K 8 [] h Q :=
  ok_enter (by kernel_rfl) (by kernel_rfl) (Eq.mp (by kernel_rfl) (H (fun i => ([] : List Value).getD i undef) rfl))

/-! ### 10 (*donjon/home.Home).Take: params 2, captured 0, results [tmp 4, tmp 5] -/
noncomputable def L10 : List (Option Nat × List Nat) := [(some 0, [0, 1]), (some 3, [0, 3]), (some 10, [0, 3, 11]), (some 6, [0, 3, 10]), (some 7, [0, 3, 10]), (some 12, [0, 3]), (some 8, [0, 3, 10]), (some 16, [3, 6]), (some 19, [0, 3, 6, 45]), (some 9, [0, 3, 10]), (some 18, [6]), (some 20, [0, 3, 6]), (some 14, [3, 6])]
noncomputable def A10_0 (Q : Value → AH → Prop) (t0 t1 : Value) (h : AH) : Prop := Pt Pr K 10 none (retV Pr 10 Q) 88 [0, 1] [.code (cc 10 2), .code (cc 10 3)] [] [t0, t1] h
noncomputable def A10_1 (Q : Value → AH → Prop) (t0 t3 : Value) (h : AH) : Prop := Pt Pr K 10 none (retV Pr 10 Q) 88 [0, 3] [.code (cc 10 28), .code (cc 10 29), .code (cc 10 15)] [] [t0, t3] h
noncomputable def A10_2 (Q : Value → AH → Prop) (t0 t3 t11 : Value) (h : AH) : Prop := Pt Pr K 10 none (retV Pr 10 Q) 88 [0, 3, 11] [.code (cc 10 117), .inBlock 0, .code (cc 10 15)] [] [t0, t3, t11] h
noncomputable def A10_3 (Q : Value → AH → Prop) (t0 t3 t10 : Value) (h : AH) : Prop := Pt Pr K 10 none (retV Pr 10 Q) 88 [0, 3, 10] [.code (cc 10 934), .code (cc 10 935), .code (cc 10 117), .inBlock 0, .code (cc 10 15)] [] [t0, t3, t10] h
noncomputable def A10_4 (Q : Value → AH → Prop) (t0 t3 t11 : Value) (h : AH) : Prop := Pt Pr K 10 none (retV Pr 10 Q) 88 [0, 3, 11] [.code (cc 10 60), .code (cc 10 61), .code (cc 10 31)] [] [t0, t3, t11] h
noncomputable def A10_5 (Q : Value → AH → Prop) (t0 t3 t10 : Value) (h : AH) : Prop := Pt Pr K 10 none (retV Pr 10 Q) 88 [0, 3, 10] [.code (cc 10 3742), .code (cc 10 3743), .code (cc 10 117), .inBlock 0, .code (cc 10 15)] [] [t0, t3, t10] h
noncomputable def A10_6 (Q : Value → AH → Prop) (t0 t3 : Value) (h : AH) : Prop := Pt Pr K 10 none (retV Pr 10 Q) 88 [0, 3] [.code (cc 10 62), .code (cc 10 63)] [] [t0, t3] h
noncomputable def A10_7 (Q : Value → AH → Prop) (t0 t3 t10 : Value) (h : AH) : Prop := Pt Pr K 10 none (retV Pr 10 Q) 88 [0, 3, 10] [.code (cc 10 14974), .code (cc 10 14975), .code (cc 10 117), .inBlock 0, .code (cc 10 15)] [] [t0, t3, t10] h
noncomputable def A10_8 (Q : Value → AH → Prop) (t3 t6 : Value) (h : AH) : Prop := Pt Pr K 10 none (retV Pr 10 Q) 88 [3, 6] [.code (cc 10 8104), .code (cc 10 8105), .code (cc 10 4053), .inBlock 1, .code (cc 10 127)] [] [t3, t6] h
noncomputable def A10_9 (Q : Value → AH → Prop) (t0 t3 t6 t45 : Value) (h : AH) : Prop := Pt Pr K 10 none (retV Pr 10 Q) 88 [0, 3, 6, 45] [.code (cc 10 4054), .code (cc 10 4055), .inBlock 1, .code (cc 10 127)] [] [t0, t3, t6, t45] h
noncomputable def A10_10 (Q : Value → AH → Prop) (t0 t3 t10 : Value) (h : AH) : Prop := Pt Pr K 10 none (retV Pr 10 Q) 88 [0, 3, 10] [.code (cc 10 29951), .code (cc 10 117), .inBlock 0, .code (cc 10 15)] [] [t0, t3, t10] h
noncomputable def A10_11 (Q : Value → AH → Prop) (t6 : Value) (h : AH) : Prop := Pt Pr K 10 none (retV Pr 10 Q) 88 [6] [.code (cc 10 4053), .inBlock 1, .code (cc 10 127)] [] [t6] h
noncomputable def A10_12 (Q : Value → AH → Prop) (t0 t3 t6 : Value) (h : AH) : Prop := Pt Pr K 10 none (retV Pr 10 Q) 88 [0, 3, 6] [.code (cc 10 32440), .code (cc 10 32441), .code (cc 10 16221), .inBlock 1, .code (cc 10 127)] [] [t0, t3, t6] h
noncomputable def A10_13 (Q : Value → AH → Prop) (t3 t6 : Value) (h : AH) : Prop := Pt Pr K 10 none (retV Pr 10 Q) 88 [3, 6] [.code (cc 10 8111), .inBlock 1, .code (cc 10 127)] [] [t3, t6] h
theorem b10_0 {h : AH} {Q : Value → AH → Prop} {t0 t1 : Value} (H :
 thn (blkOf 38 t1) fun b1 =>
 alc h b1 fun p2 h0 =>
 thn (biP .eql t0 (.pointer none)) fun v3 =>
 Br v3 (
 Q (.tuple ⟨[(.slice none 0 0), (I 2)]⟩) h0) (
 A10_1 Q t0 (pt p2 0 0) h0)
) : A10_0 Q t0 t1 h := by intro e he; cases he; exact bF L10 (by kernel_rfl) H
theorem b10_1 {h : AH} {Q : Value → AH → Prop} {t0 t3 : Value} (H :
 thn (padd 0 t3) fun v0 =>
 thn (ld1 h v0) fun v1 =>
 thn (biI .eql v1 (I 1)) fun v2 =>
 Br v2 (
 A10_2 Q t0 t3 v2 h) (
 A10_3 Q t0 t3 v1 h)
) : A10_1 Q t0 t3 h := by intro e he; cases he; exact bF L10 (by kernel_rfl) H
theorem b10_2 {h : AH} {Q : Value → AH → Prop} {t0 t3 t11 : Value} (H :
 Br t11 (
 A10_4 Q t0 t3 t11 h) (
 Q (.tuple ⟨[(.slice none 0 0), (I 15)]⟩) h)
) : A10_2 Q t0 t3 t11 h := by intro e he; cases he; exact bF L10 (by kernel_rfl) H
theorem b10_3 {h : AH} {Q : Value → AH → Prop} {t0 t3 t10 : Value} (H :
 thn (biI .eql t10 (I 2)) fun v0 =>
 Br v0 (
 A10_2 Q t0 t3 v0 h) (
 A10_5 Q t0 t3 t10 h)
) : A10_3 Q t0 t3 t10 h := by intro e he; cases he; exact bF L10 (by kernel_rfl) H
theorem b10_4 {h : AH} {Q : Value → AH → Prop} {t0 t3 t11 : Value} (H :
 resv h 20 fun r1 h0 =>
 thn (padd 1 t3) fun v2 =>
 thn (ld1 h0 v2) fun v3 =>
 thn (biI .lss v3 (I 0)) fun v4 =>
 Br v4 (
 Q (.tuple ⟨[(.slice none 0 0), (I 10)]⟩) h0) (
 thn (padd 1 t3) fun v5 =>
 thn (ld1 h0 v5) fun v6 =>
 thn (nilV t0) fun v7 =>
 thn (padd 1 v7) fun v8 =>
 thn (padd 0 v8) fun v9 =>
 thn (ld1 h0 v9) fun v10 =>
 thn (biI .geq v6 v10) fun v11 =>
 Br v11 (
 Q (.tuple ⟨[(.slice none 0 0), (I 10)]⟩) h0) (
 thn (padd 2 t3) fun v12 =>
 thn (ld1 h0 v12) fun v13 =>
 Cl Pr K 28 [t0, v13] h0 fun v14 h14 => -- (*donjon/home.Home).has
 thn (unV .not v14) fun v15 =>
 Br v15 (
 Q (.tuple ⟨[(.slice none 0 0), (I 10)]⟩) h14) (
 A10_6 Q t0 t3 h14)))
) : A10_4 Q t0 t3 t11 h := by intro e he; cases he; exact bF L10 (by kernel_rfl) H
theorem b10_5 {h : AH} {Q : Value → AH → Prop} {t0 t3 t10 : Value} (H :
 thn (biI .eql t10 (I 3)) fun v0 =>
 Br v0 (
 A10_2 Q t0 t3 v0 h) (
 A10_7 Q t0 t3 t10 h)
) : A10_5 Q t0 t3 t10 h := by intro e he; cases he; exact bF L10 (by kernel_rfl) H
theorem b10_6 {h : AH} {Q : Value → AH → Prop} {t0 t3 : Value} (H :
 resv h 8 fun r1 h0 =>
 thn (nilV t0) fun v2 =>
 thn (padd 8 v2) fun v3 =>
 thn (ld1 h0 v3) fun v4 =>
 thn (padd 2 t3) fun v5 =>
 thn (ld1 h0 v5) fun v6 =>
 thn (idxS 25 v4 v6) fun v7 =>
 thn (padd 0 t3) fun v8 =>
 thn (ld1 h0 v8) fun v9 =>
 thn (biI .eql v9 (I 4)) fun v10 =>
 Br v10 (
 A10_8 Q t3 v7 h0) (
 A10_9 Q t0 t3 v7 v9 h0)
) : A10_6 Q t0 t3 h := by intro e he; cases he; exact bF L10 (by kernel_rfl) H
theorem b10_7 {h : AH} {Q : Value → AH → Prop} {t0 t3 t10 : Value} (H :
 thn (biI .eql t10 (I 4)) fun v0 =>
 Br v0 (
 A10_2 Q t0 t3 v0 h) (
 A10_10 Q t0 t3 t10 h)
) : A10_7 Q t0 t3 t10 h := by intro e he; cases he; exact bF L10 (by kernel_rfl) H
theorem b10_8 {h : AH} {Q : Value → AH → Prop} {t3 t6 : Value} (H :
 resv h 15 fun r1 h0 =>
 thn (nilV t6) fun v2 =>
 thn (padd 21 v2) fun v3 =>
 thn (ld1 h0 v3) fun v4 =>
 thn (unV .not v4) fun v5 =>
 Br v5 (
 Q (.tuple ⟨[(.slice none 0 0), (I 16)]⟩) h0) (
 thn (nilV t6) fun v6 =>
 thn (padd 7 v6) fun v7 =>
 thn (padd 1 v7) fun v8 =>
 thn (ld1 h0 v8) fun v9 =>
 thn (padd 1 t3) fun v10 =>
 thn (ld1 h0 v10) fun v11 =>
 thn (biI .neq v9 v11) fun v12 =>
 Br v12 (
 Q (.tuple ⟨[(.slice none 0 0), (I 16)]⟩) h0) (
 A10_11 Q t6 h0))
) : A10_8 Q t3 t6 h := by intro e he; cases he; exact bF L10 (by kernel_rfl) H
theorem b10_9 {h : AH} {Q : Value → AH → Prop} {t0 t3 t6 t45 : Value} (H :
 thn (biI .eql t45 (I 5)) fun v0 =>
 Br v0 (
 A10_12 Q t0 t3 t6 h) (
 A10_13 Q t3 t6 h)
) : A10_9 Q t0 t3 t6 t45 h := by intro e he; cases he; exact bF L10 (by kernel_rfl) H
theorem b10_10 {h : AH} {Q : Value → AH → Prop} {t0 t3 t10 : Value} (H :
 thn (biI .eql t10 (I 5)) fun v0 =>
 Br v0 (
 A10_4 Q t0 t3 v0 h) (
 Q (.tuple ⟨[(.slice none 0 0), (I 15)]⟩) h)
) : A10_10 Q t0 t3 t10 h := by intro e he; cases he; exact bF L10 (by kernel_rfl) H
theorem b10_11 {h : AH} {Q : Value → AH → Prop} {t6 : Value} (H :
 Cl Pr K 29 [t6] h fun v0 h0 => -- (*donjon/home.row).free
 Q (.tuple ⟨[(.slice none 0 0), (I 0)]⟩) h0
) : A10_11 Q t6 h := by intro e he; cases he; exact bF L10 (by kernel_rfl) H
theorem b10_12 {h : AH} {Q : Value → AH → Prop} {t0 t3 t6 : Value} (H :
 resv h 8 fun r1 h0 =>
 thn (padd 1 t3) fun v2 =>
 thn (ld1 h0 v2) fun v3 =>
 thn (nilV t6) fun v4 =>
 thn (padd 17 v4) fun v5 =>
 thn (idxA 4 1 v5 v3) fun v6 =>
 thn (ld1 h0 v6) fun v7 =>
 thn (unV .not v7) fun v8 =>
 Br v8 (
 Q (.tuple ⟨[(.slice none 0 0), (I 16)]⟩) h0) (
 thn (ldN h0 9 t3) fun v9 =>
 Cl Pr K 30 [t0, v9] h0 fun v10 h10 => -- (*donjon/home.Home).reply
 Q (.tuple ⟨[v10, (I 0)]⟩) h10)
) : A10_12 Q t0 t3 t6 h := by intro e he; cases he; exact bF L10 (by kernel_rfl) H
theorem b10_13 {h : AH} {Q : Value → AH → Prop} {t3 t6 : Value} (H :
 resv h 11 fun r1 h0 =>
 thn (nilV t6) fun v2 =>
 thn (padd 5 v2) fun v3 =>
 thn (ld1 h0 v3) fun v4 =>
 thn (ldN h0 9 t3) fun v5 =>
 thn (fillL [(I 0), (I 0), (I 0), (I 0), (I 0), (I 0), (I 0), (.bool false), (I 0)] [(0, 9, v5)]) fun l7 =>
 alcSAt h0 (r1 + 6) 9 38 l7 1 1 fun s8 h6 =>
 thn (appV 9 72 38 h6 v4 s8) fun r9 => (fun v10 h11 =>
 thn (nilV t6) fun v12 =>
 thn (padd 5 v12) fun v13 =>
 thn (stV h11 1 v13 v10) fun h14 =>
(veq t6 t6 = true) ∧ (
 Q (.tuple ⟨[(.slice none 0 0), (I 0)]⟩) h14)) r9.1 r9.2
) : A10_13 Q t3 t6 h := by intro e he; cases he; exact bF L10 (by kernel_rfl) H
theorem c10 {h : AH} {Q : Value → AH → Prop} {a0 a1 : Value} (H : A10_0 Q a0 a1 h) : Cl Pr K 10 [a0, a1] h Q :=
  ok_enter (by kernel_rfl) (by kernel_rfl) (Eq.mp (by kernel_rfl) (H (fun i => ([a0, a1] : List Value).getD i undef) rfl))

/-! ### 11 (*donjon/home.Home).Sweep: params 2, captured 0, results [tmp 4] -/
noncomputable def L11 : List (Option Nat × List Nat) := [(some 0, [0, 1]), (some 3, [0, 1]), (some 5, [0, 1])]
noncomputable def A11_0 (Q : Value → AH → Prop) (t0 t1 : Value) (h : AH) : Prop := Pt Pr K 11 none (retV Pr 11 Q) 29 [0, 1] [.code (cc 11 2), .code (cc 11 3)] [] [t0, t1] h
noncomputable def A11_1 (Q : Value → AH → Prop) (t0 t1 : Value) (h : AH) : Prop := Pt Pr K 11 none (retV Pr 11 Q) 29 [0, 1] [.code (cc 11 28), .code (cc 11 29), .code (cc 11 15)] [] [t0, t1] h
noncomputable def A11_2 (Q : Value → AH → Prop) (t0 t1 : Value) (h : AH) : Prop := Pt Pr K 11 none (retV Pr 11 Q) 29 [0, 1] [.code (cc 11 30), .code (cc 11 31)] [] [t0, t1] h
theorem b11_0 {h : AH} {Q : Value → AH → Prop} {t0 t1 : Value} (H :
 thn (biP .eql t0 (.pointer none)) fun v0 =>
 Br v0 (
 Q (I 2) h) (
 A11_1 Q t0 t1 h)
) : A11_0 Q t0 t1 h := by intro e he; cases he; exact bF L11 (by kernel_rfl) H
theorem b11_1 {h : AH} {Q : Value → AH → Prop} {t0 t1 : Value} (H :
 Cl Pr K 28 [t0, t1] h fun v0 h0 => -- (*donjon/home.Home).has
 thn (unV .not v0) fun v1 =>
 Br v1 (
 Q (I 10) h0) (
 A11_2 Q t0 t1 h0)
) : A11_1 Q t0 t1 h := by intro e he; cases he; exact bF L11 (by kernel_rfl) H
theorem b11_2 {h : AH} {Q : Value → AH → Prop} {t0 t1 : Value} (H :
 thn (nilV t0) fun v0 =>
 thn (padd 8 v0) fun v1 =>
 thn (ld1 h v1) fun v2 =>
 thn (idxS 25 v2 t1) fun v3 =>
 thn (nilV v3) fun v4 =>
 thn (padd 5 v4) fun v5 =>
 thn (ld1 h v5) fun v6 =>
 thn (fillL [(I 0), (I 0), (I 0), (I 0), (I 0), (I 0), (I 0), (.bool false), (I 0)] [(0, 1, (I 0)), (2, 1, t1)]) fun c7 =>
 thn (fillL [(I 0), (I 0), (I 0), (I 0), (I 0), (I 0), (I 0), (.bool false), (I 0)] [(0, 9, (.agg ⟨c7⟩))]) fun l9 =>
 alcS h 9 38 l9 1 1 fun s10 h8 =>
 thn (appV 9 72 38 h8 v6 s10) fun r11 => (fun v12 h13 =>
 thn (nilV v3) fun v14 =>
 thn (padd 5 v14) fun v15 =>
 thn (stV h13 1 v15 v12) fun h16 =>
 Q (I 0) h16) r11.1 r11.2
) : A11_2 Q t0 t1 h := by intro e he; cases he; exact bF L11 (by kernel_rfl) H
theorem c11 {h : AH} {Q : Value → AH → Prop} {a0 a1 : Value} (H : A11_0 Q a0 a1 h) : Cl Pr K 11 [a0, a1] h Q :=
  ok_enter (by kernel_rfl) (by kernel_rfl) (Eq.mp (by kernel_rfl) (H (fun i => ([a0, a1] : List Value).getD i undef) rfl))

/-! ### 12 (*donjon/home.Home).Busy: params 2, captured 0, results [tmp 4] -/
noncomputable def L12 : List (Option Nat × List Nat) := [(some 0, [0, 1])]
noncomputable def A12_0 (Q : Value → AH → Prop) (t0 t1 : Value) (h : AH) : Prop := Pt Pr K 12 none (retV Pr 12 Q) 18 [0, 1] [.code (cc 12 2), .code (cc 12 3)] [] [t0, t1] h
theorem b12_0 {h : AH} {Q : Value → AH → Prop} {t0 t1 : Value} (H :
 Cl Pr K 28 [t0, t1] h fun v0 h0 => -- (*donjon/home.Home).has
 Br v0 (
 thn (nilV t0) fun v1 =>
 thn (padd 8 v1) fun v2 =>
 thn (ld1 h0 v2) fun v3 =>
 thn (idxS 25 v3 t1) fun v4 =>
 thn (padd 6 v4) fun v5 =>
 thn (ld1 h0 v5) fun v6 =>
 Q v6 h0) (
 Q (.bool false) h0)
) : A12_0 Q t0 t1 h := by intro e he; cases he; exact bF L12 (by kernel_rfl) H
theorem c12 {h : AH} {Q : Value → AH → Prop} {a0 a1 : Value} (H : A12_0 Q a0 a1 h) : Cl Pr K 12 [a0, a1] h Q :=
  ok_enter (by kernel_rfl) (by kernel_rfl) (Eq.mp (by kernel_rfl) (H (fun i => ([a0, a1] : List Value).getD i undef) rfl))

/-! ### 13 (*donjon/home.Home).Begin: params 3, captured 0, results [tmp 6, tmp 7] -/
noncomputable def L13 : List (Option Nat × List Nat) := [(some 0, [0, 1, 2]), (some 3, [0, 1, 2]), (some 5, [0, 1, 2]), (some 7, [0, 1, 2]), (some 10, [0, 1, 2, 8]), (some 12, [0, 1, 2, 8]), (some 16, [0, 1, 8, 9]), (some 20, [0, 1, 2, 8, 9, 51]), (some 17, [0, 1, 8, 9]), (some 18, [1, 8, 9]), (some 26, [0, 1, 2, 8, 9, 82]), (some 21, [0, 1, 2, 8, 9, 51]), (some 22, [0, 1, 2, 9]), (some 28, [1, 8, 9])]
noncomputable def A13_0 (Q : Value → AH → Prop) (t0 t1 t2 : Value) (h : AH) : Prop := Pt Pr K 13 none (retV Pr 13 Q) 120 [0, 1, 2] [.code (cc 13 2), .code (cc 13 3)] [] [t0, t1, t2] h
noncomputable def A13_1 (Q : Value → AH → Prop) (t0 t1 t2 : Value) (h : AH) : Prop := Pt Pr K 13 none (retV Pr 13 Q) 120 [0, 1, 2] [.code (cc 13 28), .code (cc 13 29), .code (cc 13 15)] [] [t0, t1, t2] h
noncomputable def A13_2 (Q : Value → AH → Prop) (t0 t1 t2 : Value) (h : AH) : Prop := Pt Pr K 13 none (retV Pr 13 Q) 120 [0, 1, 2] [.code (cc 13 60), .code (cc 13 61), .code (cc 13 31)] [] [t0, t1, t2] h
noncomputable def A13_3 (Q : Value → AH → Prop) (t0 t1 t2 : Value) (h : AH) : Prop := Pt Pr K 13 none (retV Pr 13 Q) 120 [0, 1, 2] [.code (cc 13 62), .code (cc 13 63)] [] [t0, t1, t2] h
noncomputable def A13_4 (Q : Value → AH → Prop) (t0 t1 t2 t8 : Value) (h : AH) : Prop := Pt Pr K 13 none (retV Pr 13 Q) 120 [0, 1, 2, 8] [.code (cc 13 508), .code (cc 13 509), .code (cc 13 255)] [] [t0, t1, t2, t8] h
noncomputable def A13_5 (Q : Value → AH → Prop) (t0 t1 t2 t8 : Value) (h : AH) : Prop := Pt Pr K 13 none (retV Pr 13 Q) 120 [0, 1, 2, 8] [.code (cc 13 510), .code (cc 13 511)] [] [t0, t1, t2, t8] h
noncomputable def A13_6 (Q : Value → AH → Prop) (t0 t1 t8 t9 : Value) (h : AH) : Prop := Pt Pr K 13 none (retV Pr 13 Q) 120 [0, 1, 8, 9] [.code (cc 13 130984), .code (cc 13 130985), .code (cc 13 65493), .inBlock 0, .code (cc 13 2047)] [] [t0, t1, t8, t9] h
noncomputable def A13_7 (Q : Value → AH → Prop) (t0 t1 t2 t8 t9 t51 : Value) (h : AH) : Prop := Pt Pr K 13 none (retV Pr 13 Q) 120 [0, 1, 2, 8, 9, 51] [.code (cc 13 130988), .code (cc 13 130989), .code (cc 13 65495), .inBlock 0, .code (cc 13 2047)] [] [t0, t1, t2, t8, t9, t51] h
noncomputable def A13_8 (Q : Value → AH → Prop) (t0 t1 t8 t9 : Value) (h : AH) : Prop := Pt Pr K 13 none (retV Pr 13 Q) 120 [0, 1, 8, 9] [.code (cc 13 261970), .code (cc 13 65493), .inBlock 0, .code (cc 13 2047)] [] [t0, t1, t8, t9] h
noncomputable def A13_9 (Q : Value → AH → Prop) (t1 t8 t9 : Value) (h : AH) : Prop := Pt Pr K 13 none (retV Pr 13 Q) 120 [1, 8, 9] [.code (cc 13 130986), .code (cc 13 130987), .inBlock 0, .code (cc 13 2047)] [] [t1, t8, t9] h
noncomputable def A13_10 (Q : Value → AH → Prop) (t0 t1 t2 t8 t9 t82 : Value) (h : AH) : Prop := Pt Pr K 13 none (retV Pr 13 Q) 120 [0, 1, 2, 8, 9, 82] [.code (cc 13 65495), .inBlock 0, .code (cc 13 2047)] [] [t0, t1, t2, t8, t9, t82] h
noncomputable def A13_11 (Q : Value → AH → Prop) (t0 t1 t2 t8 t9 t51 : Value) (h : AH) : Prop := Pt Pr K 13 none (retV Pr 13 Q) 120 [0, 1, 2, 8, 9, 51] [.code (cc 13 261979), .code (cc 13 65495), .inBlock 0, .code (cc 13 2047)] [] [t0, t1, t2, t8, t9, t51] h
noncomputable def A13_12 (Q : Value → AH → Prop) (t0 t1 t2 t9 : Value) (h : AH) : Prop := Pt Pr K 13 none (retV Pr 13 Q) 120 [0, 1, 2, 9] [.code (cc 13 261980), .code (cc 13 261981), .inBlock 0, .code (cc 13 2047)] [] [t0, t1, t2, t9] h
noncomputable def A13_13 (Q : Value → AH → Prop) (t0 t1 t2 t8 t9 t82 : Value) (h : AH) : Prop := Pt Pr K 13 none (retV Pr 13 Q) 120 [0, 1, 2, 8, 9, 82] [.code (cc 13 8188), .code (cc 13 8189), .code (cc 13 4095)] [] [t0, t1, t2, t8, t9, t82] h
noncomputable def A13_14 (Q : Value → AH → Prop) (t1 t8 t9 : Value) (h : AH) : Prop := Pt Pr K 13 none (retV Pr 13 Q) 120 [1, 8, 9] [.code (cc 13 8190), .code (cc 13 8191)] [] [t1, t8, t9] h
theorem b13_0 {h : AH} {Q : Value → AH → Prop} {t0 t1 t2 : Value} (H :
 thn (biP .eql t0 (.pointer none)) fun v0 =>
 Br v0 (
 Q (.tuple ⟨[(.slice none 0 0), (I 2)]⟩) h) (
 A13_1 Q t0 t1 t2 h)
) : A13_0 Q t0 t1 t2 h := by intro e he; cases he; exact bF L13 (by kernel_rfl) H
theorem b13_1 {h : AH} {Q : Value → AH → Prop} {t0 t1 t2 : Value} (H :
 Cl Pr K 28 [t0, t1] h fun v0 h0 => -- (*donjon/home.Home).has
 thn (unV .not v0) fun v1 =>
 Br v1 (
 Q (.tuple ⟨[(.slice none 0 0), (I 10)]⟩) h0) (
 A13_2 Q t0 t1 t2 h0)
) : A13_1 Q t0 t1 t2 h := by intro e he; cases he; exact bF L13 (by kernel_rfl) H
theorem b13_2 {h : AH} {Q : Value → AH → Prop} {t0 t1 t2 : Value} (H :
 thn (biE true .eql t2 .nilIface) fun v0 =>
 Br v0 (
 Q (.tuple ⟨[(.slice none 0 0), (I 2)]⟩) h) (
 A13_3 Q t0 t1 t2 h)
) : A13_2 Q t0 t1 t2 h := by intro e he; cases he; exact bF L13 (by kernel_rfl) H
theorem b13_3 {h : AH} {Q : Value → AH → Prop} {t0 t1 t2 : Value} (H :
 thn (nilV t0) fun v0 =>
 thn (padd 8 v0) fun v1 =>
 thn (ld1 h v1) fun v2 =>
 thn (idxS 25 v2 t1) fun v3 =>
 thn (nilV v3) fun v4 =>
 thn (padd 6 v4) fun v5 =>
 thn (ld1 h v5) fun v6 =>
 Br v6 (
 Q (.tuple ⟨[(.slice none 0 0), (I 16)]⟩) h) (
 A13_4 Q t0 t1 t2 v3 h)
) : A13_3 Q t0 t1 t2 h := by intro e he; cases he; exact bF L13 (by kernel_rfl) H
theorem b13_4 {h : AH} {Q : Value → AH → Prop} {t0 t1 t2 t8 : Value} (H :
 thn (nilV t8) fun v0 =>
 thn (padd 5 v0) fun v1 =>
 thn (ld1 h v1) fun v2 =>
 thn (lenS v2) fun v3 =>
 thn (biI .eql v3 (I 0)) fun v4 =>
 Br v4 (
 Q (.tuple ⟨[(.slice none 0 0), (I 12)]⟩) h) (
 A13_5 Q t0 t1 t2 t8 h)
) : A13_4 Q t0 t1 t2 t8 h := by intro e he; cases he; exact bF L13 (by kernel_rfl) H
theorem b13_5 {h : AH} {Q : Value → AH → Prop} {t0 t1 t2 t8 : Value} (H :
 thn (nilV t8) fun v0 =>
 thn (padd 5 v0) fun v1 =>
 thn (ld1 h v1) fun v2 =>
 thn (idxS 9 v2 (I 0)) fun v3 =>
 thn (ldN h 9 v3) fun v4 =>
 alc h (.cells [(I 0), (I 0), (I 0), (I 0), (I 0), (I 0), (I 0), (.bool false), (I 0)] 38 (0, 0) true) fun p6 h5 =>
 thn (stV h5 9 (pt p6 0 0) v4) fun h7 =>
 thn (nilV t8) fun v8 =>
 thn (padd 5 v8) fun v9 =>
 thn (ld1 h7 v9) fun v10 =>
 thn (slS 9 h7 v10 (some (I 1)) none none) fun v11 =>
 thn (nilV t8) fun v12 =>
 thn (padd 5 v12) fun v13 =>
 thn (stV h7 1 v13 v11) fun h14 =>
 thn (padd 0 (pt p6 0 0)) fun v15 =>
 thn (ld1 h14 v15) fun v16 =>
 thn (biI .eql v16 (I 3)) fun v17 =>
 Br v17 (
 A13_6 Q t0 t1 t8 (pt p6 0 0) h14) (
 A13_7 Q t0 t1 t2 t8 (pt p6 0 0) v16 h14)
) : A13_5 Q t0 t1 t2 t8 h := by intro e he; cases he; exact bF L13 (by kernel_rfl) H
theorem b13_6 {h : AH} {Q : Value → AH → Prop} {t0 t1 t8 t9 : Value} (H :
 resv h 11 fun r1 h0 =>
 thn (nilV t8) fun v2 =>
 thn (padd 0 v2) fun v3 =>
 thn (ld1 h0 v3) fun v4 =>
 thn (padd 1 t9) fun v5 =>
 thn (ld1 h0 v5) fun v6 =>
 thn (biI .eql v4 v6) fun v7 =>
 Br v7 (
 thn (padd 7 t9) fun v8 =>
 thn (ld1 h0 v8) fun v9 =>
 Br v9 (
 A13_8 Q t0 t1 t8 t9 h0) (
 A13_9 Q t1 t8 t9 h0)) (
 thn (padd 1 t9) fun v8 =>
 thn (ld1 h0 v8) fun v9 =>
 Cl Pr K 32 [t8, v9] h0 fun v10 h10 => -- (*donjon/home.row).leave
 thn (padd 1 t9) fun v11 =>
 thn (ld1 h10 v11) fun v12 =>
 thn (fillL [(I 0), (I 0), (I 0), (I 0), (I 0), (I 0), (I 0), (.bool false), (I 0)] [(0, 1, (I 10)), (1, 1, v12), (2, 1, t1)]) fun c13 =>
 thn (fillL [(I 0), (I 0), (I 0), (I 0), (I 0), (I 0), (I 0), (.bool false), (I 0)] [(0, 9, (.agg ⟨c13⟩))]) fun l15 =>
 alcS h10 9 38 l15 1 1 fun s16 h14 =>
 Q (.tuple ⟨[s16, (I 0)]⟩) h14)
) : A13_6 Q t0 t1 t8 t9 h := by intro e he; cases he; exact bF L13 (by kernel_rfl) H
theorem b13_7 {h : AH} {Q : Value → AH → Prop} {t0 t1 t2 t8 t9 t51 : Value} (H :
 thn (biI .eql t51 (I 1)) fun v0 =>
 Br v0 (
 A13_10 Q t0 t1 t2 t8 t9 v0 h) (
 A13_11 Q t0 t1 t2 t8 t9 t51 h)
) : A13_7 Q t0 t1 t2 t8 t9 t51 h := by intro e he; cases he; exact bF L13 (by kernel_rfl) H
theorem b13_8 {h : AH} {Q : Value → AH → Prop} {t0 t1 t8 t9 : Value} (H :
 resv h 8 fun r1 h0 =>
 thn (nilV t0) fun v2 =>
 thn (padd 0 v2) fun v3 =>
 thn (ld1 h0 v3) fun v4 =>
 thn (padd 5 t9) fun v5 =>
 thn (ldN h0 2 v5) fun v6 =>
 Cl Pr K 31 [v4, t1, v6] h0 fun v7 h7 => -- (*donjon/bank.Memory).Write
 thn (padd 1 t9) fun v8 =>
 thn (ld1 h7 v8) fun v9 =>
 Cl Pr K 32 [t8, v9] h7 fun v10 h10 => -- (*donjon/home.row).leave
 thn (padd 1 t9) fun v11 =>
 thn (ld1 h10 v11) fun v12 =>
 thn (fillL [(I 0), (I 0), (I 0), (I 0), (I 0), (I 0), (I 0), (.bool false), (I 0)] [(0, 1, (I 10)), (1, 1, v12), (2, 1, t1)]) fun c13 =>
 thn (fillL [(I 0), (I 0), (I 0), (I 0), (I 0), (I 0), (I 0), (.bool false), (I 0)] [(0, 9, (.agg ⟨c13⟩))]) fun l15 =>
 alcS h10 9 38 l15 1 1 fun s16 h14 =>
 Q (.tuple ⟨[s16, (I 0)]⟩) h14
) : A13_8 Q t0 t1 t8 t9 h := by intro e he; cases he; exact bF L13 (by kernel_rfl) H
theorem b13_9 {h : AH} {Q : Value → AH → Prop} {t1 t8 t9 : Value} (H :
 thn (padd 1 t9) fun v0 =>
 thn (ld1 h v0) fun v1 =>
 Cl Pr K 32 [t8, v1] h fun v2 h2 => -- (*donjon/home.row).leave
 thn (padd 1 t9) fun v3 =>
 thn (ld1 h2 v3) fun v4 =>
 thn (fillL [(I 0), (I 0), (I 0), (I 0), (I 0), (I 0), (I 0), (.bool false), (I 0)] [(0, 1, (I 10)), (1, 1, v4), (2, 1, t1)]) fun c5 =>
 thn (fillL [(I 0), (I 0), (I 0), (I 0), (I 0), (I 0), (I 0), (.bool false), (I 0)] [(0, 9, (.agg ⟨c5⟩))]) fun l7 =>
 alcS h2 9 38 l7 1 1 fun s8 h6 =>
 Q (.tuple ⟨[s8, (I 0)]⟩) h6
) : A13_9 Q t1 t8 t9 h := by intro e he; cases he; exact bF L13 (by kernel_rfl) H
theorem b13_10 {h : AH} {Q : Value → AH → Prop} {t0 t1 t2 t8 t9 t82 : Value} (H :
 Br t82 (
 A13_12 Q t0 t1 t2 t9 h) (
 A13_13 Q t0 t1 t2 t8 t9 t82 h)
) : A13_10 Q t0 t1 t2 t8 t9 t82 h := by intro e he; cases he; exact bF L13 (by kernel_rfl) H
theorem b13_11 {h : AH} {Q : Value → AH → Prop} {t0 t1 t2 t8 t9 t51 : Value} (H :
 thn (biI .eql t51 (I 2)) fun v0 =>
 Br v0 (
 A13_12 Q t0 t1 t2 t9 h) (
 A13_13 Q t0 t1 t2 t8 t9 v0 h)
) : A13_11 Q t0 t1 t2 t8 t9 t51 h := by intro e he; cases he; exact bF L13 (by kernel_rfl) H
theorem b13_12 {h : AH} {Q : Value → AH → Prop} {t0 t1 t2 t9 : Value} (H :
 thn (padd 3 t9) fun v0 =>
 thn (ld1 h v0) fun v1 =>
 Cl Pr K 33 [t2, v1, t1] h fun v2 h2 => -- donjon/home.judged
 thn (extV 0 v2) fun v3 =>
 thn (extV 1 v2) fun v4 =>
 thn (unV .not v4) fun v5 =>
 Br v5 (
 thn (padd 1 t9) fun v6 =>
 thn (ld1 h2 v6) fun v7 =>
 thn (fillL [(I 0), (I 0), (I 0), (I 0), (I 0), (I 0), (I 0), (.bool false), (I 0)] [(0, 1, (I 9)), (1, 1, v7), (2, 1, t1)]) fun c8 =>
 thn (fillL [(I 0), (I 0), (I 0), (I 0), (I 0), (I 0), (I 0), (.bool false), (I 0)] [(0, 9, (.agg ⟨c8⟩))]) fun l10 =>
 alcS h2 9 38 l10 1 1 fun s11 h9 =>
 Q (.tuple ⟨[s11, (I 0)]⟩) h9) (
 thn (ldN h2 9 t9) fun v6 =>
 Cl Pr K 34 [t0, t1, v3, v6] h2 fun v7 h7 => -- (*donjon/home.Home).get
 Q (.tuple ⟨[v7, (I 0)]⟩) h7)
) : A13_12 Q t0 t1 t2 t9 h := by intro e he; cases he; exact bF L13 (by kernel_rfl) H
theorem b13_13 {h : AH} {Q : Value → AH → Prop} {t0 t1 t2 t8 t9 t82 : Value} (H :
 Cl Pr K 35 [t8, (I (-1))] h fun v0 h0 => -- (*donjon/home.row).first
 thn (biI .eql v0 (I (-1))) fun v1 =>
 Br v1 (
 Q (.tuple ⟨[(.slice none 0 0), (I 0)]⟩) h0) (
 A13_14 Q t1 t8 t9 h0)
) : A13_13 Q t0 t1 t2 t8 t9 t82 h := by intro e he; cases he; exact bF L13 (by kernel_rfl) H
theorem b13_14 {h : AH} {Q : Value → AH → Prop} {t1 t8 t9 : Value} (H :
 resv h 9 fun r1 h0 =>
 thn (ldN h0 9 t9) fun v2 =>
 thn (nilV t8) fun v3 =>
 thn (padd 6 v3) fun v4 =>
 thn (stV h0 1 v4 (.bool true)) fun h5 =>
 thn (nilV t8) fun v6 =>
 thn (padd 7 v6) fun v7 =>
 thn (stV h5 9 v7 v2) fun h8 =>
(veq t8 t8 = true) ∧ (
(thn (ldN h5 9 t9) fun v9 =>
 veq v9 v2 = true) ∧ (
 Cl Pr K 37 [t8, (I (-1))] h8 fun v10 h10 => -- (*donjon/home.row).holders
 Cl Pr K 36 [t8, t1, (I 0), v10] h10 fun v11 h11 => -- (*donjon/home.row).probe
 Q (.tuple ⟨[v11, (I 0)]⟩) h11))
) : A13_14 Q t1 t8 t9 h := by intro e he; cases he; exact bF L13 (by kernel_rfl) H
theorem c13 {h : AH} {Q : Value → AH → Prop} {a0 a1 a2 : Value} (H : A13_0 Q a0 a1 a2 h) : Cl Pr K 13 [a0, a1, a2] h Q :=
  ok_enter (by kernel_rfl) (by kernel_rfl) (Eq.mp (by kernel_rfl) (H (fun i => ([a0, a1, a2] : List Value).getD i undef) rfl))

/-! ### 15 (*donjon/home.Home).Who: params 2, captured 0, results [tmp 4, tmp 5, tmp 6] -/
noncomputable def L15 : List (Option Nat × List Nat) := [(some 0, [0, 1]), (some 3, [0, 1, 5]), (some 5, [0, 1, 5]), (some 7, [5, 7, 25, 26]), (some 8, [5, 7, 25, 26]), (some 10, [5, 7, 8, 25, 26]), (some 11, [5, 7, 25, 26])]
noncomputable def A15_0 (Q : Value → AH → Prop) (t0 t1 : Value) (h : AH) : Prop := Pt Pr K 15 none (retV Pr 15 Q) 41 [0, 1] [.code (cc 15 2), .code (cc 15 3)] [] [t0, t1] h
noncomputable def A15_1 (Q : Value → AH → Prop) (t0 t1 t5 : Value) (h : AH) : Prop := Pt Pr K 15 none (retV Pr 15 Q) 41 [0, 1, 5] [.code (cc 15 28), .code (cc 15 29), .code (cc 15 15)] [] [t0, t1, t5] h
noncomputable def A15_2 (Q : Value → AH → Prop) (t0 t1 t5 : Value) (h : AH) : Prop := Pt Pr K 15 none (retV Pr 15 Q) 41 [0, 1, 5] [.code (cc 15 30), .code (cc 15 31)] [] [t0, t1, t5] h
noncomputable def A15_3 (Q : Value → AH → Prop) (t5 t7 t25 t26 : Value) (h : AH) : Prop := Pt Pr K 15 none (retV Pr 15 Q) 41 [5, 7, 25, 26] [.code (cc 15 1000), .code (cc 15 1001), .inLoop (cc 15 500), .inBlock 0, .code (cc 15 63)] [] [t5, t7, t25, t26] h
noncomputable def A15_4 (Q : Value → AH → Prop) (t5 t7 t25 t26 : Value) (h : AH) : Prop := Pt Pr K 15 none (retV Pr 15 Q) 41 [5, 7, 25, 26] [.code (cc 15 16024), .code (cc 15 16025), .inBlock 1, .code (cc 15 4007), .inLoop (cc 15 500), .inBlock 0, .code (cc 15 63)] [] [t5, t7, t25, t26] h
noncomputable def A15_5 (Q : Value → AH → Prop) (t5 t7 t8 t25 t26 : Value) (h : AH) : Prop := Pt Pr K 15 none (retV Pr 15 Q) 41 [5, 7, 8, 25, 26] [.code (cc 15 64102), .inBlock 1, .code (cc 15 4007), .inLoop (cc 15 500), .inBlock 0, .code (cc 15 63)] [] [t5, t7, t8, t25, t26] h
noncomputable def A15_6 (Q : Value → AH → Prop) (t5 t7 t25 t26 : Value) (h : AH) : Prop := Pt Pr K 15 none (retV Pr 15 Q) 41 [5, 7, 25, 26] [.code (cc 15 4007), .inLoop (cc 15 500), .inBlock 0, .code (cc 15 63)] [] [t5, t7, t25, t26] h
theorem b15_0 {h : AH} {Q : Value → AH → Prop} {t0 t1 : Value} (H :
 thn (biP .eql t0 (.pointer none)) fun v0 =>
 Br v0 (
 Q (.tuple ⟨[(I (-1)), (.slice none 0 0), (I 2)]⟩) h) (
 A15_1 Q t0 t1 (.slice none 0 0) h)
) : A15_0 Q t0 t1 h := by intro e he; cases he; exact bF L15 (by kernel_rfl) H
theorem b15_1 {h : AH} {Q : Value → AH → Prop} {t0 t1 t5 : Value} (H :
 Cl Pr K 28 [t0, t1] h fun v0 h0 => -- (*donjon/home.Home).has
 thn (unV .not v0) fun v1 =>
 Br v1 (
 Q (.tuple ⟨[(I 0), (.slice none 0 0), (I 10)]⟩) h0) (
 A15_2 Q t0 t1 t5 h0)
) : A15_1 Q t0 t1 t5 h := by intro e he; cases he; exact bF L15 (by kernel_rfl) H
theorem b15_2 {h : AH} {Q : Value → AH → Prop} {t0 t1 t5 : Value} (H :
 thn (nilV t0) fun v0 =>
 thn (padd 8 v0) fun v1 =>
 thn (ld1 h v1) fun v2 =>
 thn (idxS 25 v2 t1) fun v3 =>
 thn (nilV v3) fun v4 =>
 thn (padd 1 v4) fun v5 =>
 thn (ldN h 4 v5) fun v6 =>
 A15_3 Q t5 v3 v6 (I 0) h
) : A15_2 Q t0 t1 t5 h := by intro e he; cases he; exact bF L15 (by kernel_rfl) H
theorem b15_3 {h : AH} {Q : Value → AH → Prop} {t5 t7 t25 t26 : Value} (H :
 thn (biI .lss t26 (I 4)) fun v0 =>
 Br v0 (
 A15_4 Q t5 t7 t25 t26 h) (
 thn (nilV t7) fun v1 =>
 thn (padd 0 v1) fun v2 =>
 thn (ld1 h v2) fun v3 =>
 Q (.tuple ⟨[v3, t5, (I 0)]⟩) h)
) : A15_3 Q t5 t7 t25 t26 h := by intro e he; cases he; exact bF L15 (by kernel_rfl) H
theorem b15_4 {h : AH} {Q : Value → AH → Prop} {t5 t7 t25 t26 : Value} (H :
 thn (at1 4 1 t25 t26) fun v0 =>
 Br v0 (
 A15_5 Q t5 t7 t26 t25 t26 h) (
 A15_6 Q t5 t7 t25 t26 h)
) : A15_4 Q t5 t7 t25 t26 h := by intro e he; cases he; exact bF L15 (by kernel_rfl) H
theorem b15_5 {h : AH} {Q : Value → AH → Prop} {t5 t7 t8 t25 t26 : Value} (H :
 thn (fillL [(I 0)] [(0, 1, t8)]) fun l1 =>
 alcS h 1 3 l1 1 1 fun s2 h0 =>
 thn (appV 1 8 3 h0 t5 s2) fun r3 => (fun v4 h5 =>
 thn (biI .add t26 (I 1)) fun v6 =>
 A15_3 Q v4 t7 t25 v6 h5) r3.1 r3.2
) : A15_5 Q t5 t7 t8 t25 t26 h := by intro e he; cases he; exact bF L15 (by kernel_rfl) H
theorem b15_6 {h : AH} {Q : Value → AH → Prop} {t5 t7 t25 t26 : Value} (H :
 thn (biI .add t26 (I 1)) fun v0 =>
 A15_3 Q t5 t7 t25 v0 h
) : A15_6 Q t5 t7 t25 t26 h := by intro e he; cases he; exact bF L15 (by kernel_rfl) H
theorem c15 {h : AH} {Q : Value → AH → Prop} {a0 a1 : Value} (H : A15_0 Q a0 a1 h) : Cl Pr K 15 [a0, a1] h Q :=
  ok_enter (by kernel_rfl) (by kernel_rfl) (Eq.mp (by kernel_rfl) (H (fun i => ([a0, a1] : List Value).getD i undef) rfl))

/-! ### 16 (*donjon/home.Home).Waits: params 2, captured 0, results [tmp 4] -/
noncomputable def L16 : List (Option Nat × List Nat) := [(some 0, [0, 1])]
noncomputable def A16_0 (Q : Value → AH → Prop) (t0 t1 : Value) (h : AH) : Prop := Pt Pr K 16 none (retV Pr 16 Q) 18 [0, 1] [.code (cc 16 2), .code (cc 16 3)] [] [t0, t1] h
theorem b16_0 {h : AH} {Q : Value → AH → Prop} {t0 t1 : Value} (H :
 Cl Pr K 28 [t0, t1] h fun v0 h0 => -- (*donjon/home.Home).has
 thn (unV .not v0) fun v1 =>
 Br v1 (
 Q (I 0) h0) (
 thn (nilV t0) fun v2 =>
 thn (padd 8 v2) fun v3 =>
 thn (ld1 h0 v3) fun v4 =>
 thn (idxS 25 v4 t1) fun v5 =>
 thn (padd 5 v5) fun v6 =>
 thn (ld1 h0 v6) fun v7 =>
 thn (lenS v7) fun v8 =>
 Q v8 h0)
) : A16_0 Q t0 t1 h := by intro e he; cases he; exact bF L16 (by kernel_rfl) H
theorem c16 {h : AH} {Q : Value → AH → Prop} {a0 a1 : Value} (H : A16_0 Q a0 a1 h) : Cl Pr K 16 [a0, a1] h Q :=
  ok_enter (by kernel_rfl) (by kernel_rfl) (Eq.mp (by kernel_rfl) (H (fun i => ([a0, a1] : List Value).getD i undef) rfl))

/-! ### 19 (*donjon/bank.Memory).Read: params 2, captured 0, results [cell 4 : 36, tmp 5] -/
noncomputable def L19 : List (Option Nat × List Nat) := [(some 0, [0, 1]), (some 4, [4, 6, 7])]
noncomputable def A19_0 (Q : Value → AH → Prop) (t0 t1 : Value) (h : AH) : Prop := Pt Pr K 19 none (retV Pr 19 Q) 36 [0, 1] [.code (cc 19 2), .code (cc 19 3)] [] [t0, t1] h
noncomputable def A19_1 (Q : Value → AH → Prop) (t4 t6 t7 : Value) (h : AH) : Prop := Pt Pr K 19 none (retV Pr 19 Q) 36 [4, 6, 7] [.code (cc 19 30), .code (cc 19 31)] [] [t4, t6, t7] h
theorem b19_0 {h : AH} {Q : Value → AH → Prop} {t0 t1 : Value} (H :
 alc h (.cells [(I 0), (I 0)] 36 (0, 0) true) fun p1 h0 =>
 Cl Pr K 38 [t0, t1] h0 fun v2 h2 => -- (*donjon/bank.Memory).find
 thn (extV 0 v2) fun v3 =>
 thn (extV 1 v2) fun v4 =>
 thn (extV 2 v2) fun v5 =>
 thn (biI .neq v5 (I 0)) fun v6 =>
 Br v6 (
 thn (fillL [(I 0), (I 0)] []) fun c7 =>
 thn (stV h2 2 (pt p1 0 0) (.agg ⟨c7⟩)) fun h8 =>
 thn (ldN h8 2 (pt p1 0 0)) fun v9 =>
 Q (.tuple ⟨[v9, v5]⟩) h8) (
 A19_1 Q (pt p1 0 0) v3 v4 h2)
) : A19_0 Q t0 t1 h := by intro e he; cases he; exact bF L19 (by kernel_rfl) H
theorem b19_1 {h : AH} {Q : Value → AH → Prop} {t4 t6 t7 : Value} (H :
 thn (nilV t6) fun v0 =>
 thn (padd 0 v0) fun v1 =>
 thn (padd 0 v1) fun v2 =>
 thn (ld1 h v2) fun v3 =>
 thn (biI .add v3 (I 1)) fun v4 =>
 thn (nilV t6) fun v5 =>
 thn (padd 0 v5) fun v6 =>
 thn (padd 0 v6) fun v7 =>
 thn (stV h 1 v7 v4) fun h8 =>
 thn (nilV t6) fun v9 =>
 thn (padd 2 v9) fun v10 =>
 thn (ld1 h8 v10) fun v11 =>
 thn (idxS 2 v11 t7) fun v12 =>
 thn (ldN h8 2 v12) fun v13 =>
 thn (stV h8 2 t4 v13) fun h14 =>
 thn (ldN h14 2 t4) fun v15 =>
 Q (.tuple ⟨[v15, (I 0)]⟩) h14
) : A19_1 Q t4 t6 t7 h := by intro e he; cases he; exact bF L19 (by kernel_rfl) H
theorem c19 {h : AH} {Q : Value → AH → Prop} {a0 a1 : Value} (H : A19_0 Q a0 a1 h) : Cl Pr K 19 [a0, a1] h Q :=
  ok_enter (by kernel_rfl) (by kernel_rfl) (Eq.mp (by kernel_rfl) (H (fun i => ([a0, a1] : List Value).getD i undef) rfl))

/-! ### 21 (*donjon/home.Home).Sweeps: params 2, captured 0, results [tmp 4] -/
noncomputable def L21 : List (Option Nat × List Nat) := [(some 0, [0, 1]), (some 3, [0, 1]), (some 6, [5, 6]), (some 7, [5, 6]), (some 8, [6, 36, 37, 38]), (some 9, [6, 36, 37, 38]), (some 11, [6, 36, 37, 38]), (some 12, [6, 36, 37, 38])]
noncomputable def A21_0 (Q : Value → AH → Prop) (t0 t1 : Value) (h : AH) : Prop := Pt Pr K 21 none (retV Pr 21 Q) 49 [0, 1] [.code (cc 21 2), .code (cc 21 3)] [] [t0, t1] h
noncomputable def A21_1 (Q : Value → AH → Prop) (t0 t1 : Value) (h : AH) : Prop := Pt Pr K 21 none (retV Pr 21 Q) 49 [0, 1] [.code (cc 21 14), .code (cc 21 15)] [] [t0, t1] h
noncomputable def A21_2 (Q : Value → AH → Prop) (t5 t6 : Value) (h : AH) : Prop := Pt Pr K 21 none (retV Pr 21 Q) 49 [5, 6] [.code (cc 21 250), .code (cc 21 63)] [] [t5, t6] h
noncomputable def A21_3 (Q : Value → AH → Prop) (t5 t6 : Value) (h : AH) : Prop := Pt Pr K 21 none (retV Pr 21 Q) 49 [5, 6] [.code (cc 21 252), .code (cc 21 253), .code (cc 21 127)] [] [t5, t6] h
noncomputable def A21_4 (Q : Value → AH → Prop) (t6 t36 t37 t38 : Value) (h : AH) : Prop := Pt Pr K 21 none (retV Pr 21 Q) 49 [6, 36, 37, 38] [.code (cc 21 2024), .code (cc 21 2025), .inLoop (cc 21 1012), .inBlock 0, .code (cc 21 127)] [] [t6, t36, t37, t38] h
noncomputable def A21_5 (Q : Value → AH → Prop) (t6 t36 t37 t38 : Value) (h : AH) : Prop := Pt Pr K 21 none (retV Pr 21 Q) 49 [6, 36, 37, 38] [.code (cc 21 32408), .code (cc 21 32409), .inBlock 1, .code (cc 21 8103), .inLoop (cc 21 1012), .inBlock 0, .code (cc 21 127)] [] [t6, t36, t37, t38] h
noncomputable def A21_6 (Q : Value → AH → Prop) (t6 t36 t37 t38 : Value) (h : AH) : Prop := Pt Pr K 21 none (retV Pr 21 Q) 49 [6, 36, 37, 38] [.code (cc 21 129638), .inBlock 1, .code (cc 21 8103), .inLoop (cc 21 1012), .inBlock 0, .code (cc 21 127)] [] [t6, t36, t37, t38] h
noncomputable def A21_7 (Q : Value → AH → Prop) (t6 t36 t37 t38 : Value) (h : AH) : Prop := Pt Pr K 21 none (retV Pr 21 Q) 49 [6, 36, 37, 38] [.code (cc 21 8103), .inLoop (cc 21 1012), .inBlock 0, .code (cc 21 127)] [] [t6, t36, t37, t38] h
theorem b21_0 {h : AH} {Q : Value → AH → Prop} {t0 t1 : Value} (H :
 Cl Pr K 28 [t0, t1] h fun v0 h0 => -- (*donjon/home.Home).has
 thn (unV .not v0) fun v1 =>
 Br v1 (
 Q (I 0) h0) (
 A21_1 Q t0 t1 h0)
) : A21_0 Q t0 t1 h := by intro e he; cases he; exact bF L21 (by kernel_rfl) H
theorem b21_1 {h : AH} {Q : Value → AH → Prop} {t0 t1 : Value} (H :
 thn (nilV t0) fun v0 =>
 thn (padd 8 v0) fun v1 =>
 thn (ld1 h v1) fun v2 =>
 thn (idxS 25 v2 t1) fun v3 =>
 thn (nilV v3) fun v4 =>
 thn (padd 6 v4) fun v5 =>
 thn (ld1 h v5) fun v6 =>
 Br v6 (
 thn (nilV v3) fun v7 =>
 thn (padd 7 v7) fun v8 =>
 thn (padd 0 v8) fun v9 =>
 thn (ld1 h v9) fun v10 =>
 thn (biI .eql v10 (I 0)) fun v11 =>
 Br v11 (
 A21_2 Q v3 (I 0) h) (
 A21_3 Q v3 (I 0) h)) (
 thn (nilV v3) fun v7 =>
 thn (padd 5 v7) fun v8 =>
 thn (ld1 h v8) fun v9 =>
 thn (lenS v9) fun v10 =>
 A21_4 Q (I 0) v9 v10 (I 0) h)
) : A21_1 Q t0 t1 h := by intro e he; cases he; exact bF L21 (by kernel_rfl) H
theorem b21_2 {h : AH} {Q : Value → AH → Prop} {t5 t6 : Value} (H :
 thn (biI .add t6 (I 1)) fun v0 =>
 thn (nilV t5) fun v1 =>
 thn (padd 5 v1) fun v2 =>
 thn (ld1 h v2) fun v3 =>
 thn (lenS v3) fun v4 =>
 A21_4 Q v0 v3 v4 (I 0) h
) : A21_2 Q t5 t6 h := by intro e he; cases he; exact bF L21 (by kernel_rfl) H
theorem b21_3 {h : AH} {Q : Value → AH → Prop} {t5 t6 : Value} (H :
 thn (nilV t5) fun v0 =>
 thn (padd 5 v0) fun v1 =>
 thn (ld1 h v1) fun v2 =>
 thn (lenS v2) fun v3 =>
 A21_4 Q t6 v2 v3 (I 0) h
) : A21_3 Q t5 t6 h := by intro e he; cases he; exact bF L21 (by kernel_rfl) H
theorem b21_4 {h : AH} {Q : Value → AH → Prop} {t6 t36 t37 t38 : Value} (H :
 thn (biI .lss t38 t37) fun v0 =>
 Br v0 (
 A21_5 Q t6 t36 t37 t38 h) (
 Q t6 h)
) : A21_4 Q t6 t36 t37 t38 h := by intro e he; cases he; exact bF L21 (by kernel_rfl) H
theorem b21_5 {h : AH} {Q : Value → AH → Prop} {t6 t36 t37 t38 : Value} (H :
 thn (idxS 9 t36 t38) fun v0 =>
 thn (ldN h 9 v0) fun v1 =>
 alc h (.cells [(I 0), (I 0), (I 0), (I 0), (I 0), (I 0), (I 0), (.bool false), (I 0)] 38 (0, 0) true) fun p3 h2 =>
 thn (stV h2 9 (pt p3 0 0) v1) fun h4 =>
 thn (padd 0 (pt p3 0 0)) fun v5 =>
 thn (ld1 h4 v5) fun v6 =>
 thn (biI .eql v6 (I 0)) fun v7 =>
 Br v7 (
 A21_6 Q t6 t36 t37 t38 h4) (
 A21_7 Q t6 t36 t37 t38 h4)
) : A21_5 Q t6 t36 t37 t38 h := by intro e he; cases he; exact bF L21 (by kernel_rfl) H
theorem b21_6 {h : AH} {Q : Value → AH → Prop} {t6 t36 t37 t38 : Value} (H :
 thn (biI .add t6 (I 1)) fun v0 =>
 thn (biI .add t38 (I 1)) fun v1 =>
 A21_4 Q v0 t36 t37 v1 h
) : A21_6 Q t6 t36 t37 t38 h := by intro e he; cases he; exact bF L21 (by kernel_rfl) H
theorem b21_7 {h : AH} {Q : Value → AH → Prop} {t6 t36 t37 t38 : Value} (H :
 thn (biI .add t38 (I 1)) fun v0 =>
 A21_4 Q t6 t36 t37 v0 h
) : A21_7 Q t6 t36 t37 t38 h := by intro e he; cases he; exact bF L21 (by kernel_rfl) H
theorem c21 {h : AH} {Q : Value → AH → Prop} {a0 a1 : Value} (H : A21_0 Q a0 a1 h) : Cl Pr K 21 [a0, a1] h Q :=
  ok_enter (by kernel_rfl) (by kernel_rfl) (Eq.mp (by kernel_rfl) (H (fun i => ([a0, a1] : List Value).getD i undef) rfl))

/-! ### 25 donjon/place.Check: params 1, captured 0, results [tmp 2] -/
noncomputable def L25 : List (Option Nat × List Nat) := [(some 0, [0]), (some 4, [3, 4, 22, 23]), (some 5, [3, 4, 22, 23]), (some 7, []), (some 8, [3, 4, 22, 23])]
noncomputable def A25_0 (Q : Value → AH → Prop) (t0 : Value) (h : AH) : Prop := Pt Pr K 25 none (retV Pr 25 Q) 40 [0] [.code (cc 25 2), .code (cc 25 3)] [] [t0] h
noncomputable def A25_1 (Q : Value → AH → Prop) (t3 t4 t22 t23 : Value) (h : AH) : Prop := Pt Pr K 25 none (retV Pr 25 Q) 40 [3, 4, 22, 23] [.code (cc 25 1768), .code (cc 25 1769), .inLoop (cc 25 884), .inBlock 0, .code (cc 25 111), .inScope (cc 25 6)] [] [t3, t4, t22, t23] h
noncomputable def A25_2 (Q : Value → AH → Prop) (t3 t4 t22 t23 : Value) (h : AH) : Prop := Pt Pr K 25 none (retV Pr 25 Q) 40 [3, 4, 22, 23] [.code (cc 25 28312), .code (cc 25 28313), .inBlock 1, .code (cc 25 7079), .inLoop (cc 25 884), .inBlock 0, .code (cc 25 111), .inScope (cc 25 6)] [] [t3, t4, t22, t23] h
noncomputable def A25_3 (Q : Value → AH → Prop) (h : AH) : Prop := Pt Pr K 25 none (retV Pr 25 Q) 40 [] [.code (cc 25 226508), .code (cc 25 226509), .inBlock 1, .code (cc 25 7079), .inLoop (cc 25 884), .inBlock 0, .code (cc 25 111), .inScope (cc 25 6)] [] [] h
noncomputable def A25_4 (Q : Value → AH → Prop) (t3 t4 t22 t23 : Value) (h : AH) : Prop := Pt Pr K 25 none (retV Pr 25 Q) 40 [3, 4, 22, 23] [.code (cc 25 7079), .inLoop (cc 25 884), .inBlock 0, .code (cc 25 111), .inScope (cc 25 6)] [] [t3, t4, t22, t23] h
theorem b25_0 {h : AH} {Q : Value → AH → Prop} {t0 : Value} (H :
 thn (blkOf 30 t0) fun b1 =>
 alc h b1 fun p2 h0 =>
 thn (padd 0 (pt p2 0 0)) fun v3 =>
 thn (ld1 h0 v3) fun v4 =>
 thn (padd 1 (pt p2 0 0)) fun v5 =>
 thn (ld1 h0 v5) fun v6 =>
 thn (padd 2 (pt p2 0 0)) fun v7 =>
 thn (ld1 h0 v7) fun v8 =>
 thn (padd 3 (pt p2 0 0)) fun v9 =>
 thn (ld1 h0 v9) fun v10 =>
 thn (padd 4 (pt p2 0 0)) fun v11 =>
 thn (ld1 h0 v11) fun v12 =>
 thn (padd 5 (pt p2 0 0)) fun v13 =>
 thn (ld1 h0 v13) fun v14 =>
 thn (padd 6 (pt p2 0 0)) fun v15 =>
 thn (ld1 h0 v15) fun v16 =>
 thn (fillL [(I 0), (I 0), (I 0), (I 0), (I 0), (I 0), (I 0)] [(0, 1, v4), (1, 1, v6), (2, 1, v8), (3, 1, v10), (4, 1, v12), (5, 1, v14), (6, 1, v16)]) fun c17 =>
 alc h0 (.cells [(I 0), (I 0), (I 0), (I 0), (I 0), (I 0), (I 0)] 104 (0, 0) true) fun p19 h18 =>
 thn (stV h18 7 (pt p19 0 0) (.agg ⟨c17⟩)) fun h20 =>
 thn (ldN h20 7 (.pointer (some ⟨0, 0, none⟩))) fun v21 =>
 A25_1 Q (pt p19 0 0) (I 0) v21 (I 0) h20
) : A25_0 Q t0 h := by intro e he; cases he; exact bF L25 (by kernel_rfl) H
theorem b25_1 {h : AH} {Q : Value → AH → Prop} {t3 t4 t22 t23 : Value} (H :
 thn (biI .lss t23 (I 7)) fun v0 =>
 Br v0 (
 A25_2 Q t3 t4 t22 t23 h) (
 Q t4 h)
) : A25_1 Q t3 t4 t22 t23 h := by intro e he; cases he; exact bF L25 (by kernel_rfl) H
theorem b25_2 {h : AH} {Q : Value → AH → Prop} {t3 t4 t22 t23 : Value} (H :
 thn (at1 7 1 t22 t23) fun v0 =>
 thn (idxA 7 1 t3 t23) fun v1 =>
 thn (ld1 h v1) fun v2 =>
 thn (biI .lss v2 (I 1)) fun v3 =>
 Br v3 (
 Q (I 10) h) (
 thn (idxA 7 1 t3 t23) fun v4 =>
 thn (ld1 h v4) fun v5 =>
 thn (biI .gtr v5 v0) fun v6 =>
 Br v6 (
 A25_3 Q  h) (
 A25_4 Q t3 t4 t22 t23 h))
) : A25_2 Q t3 t4 t22 t23 h := by intro e he; cases he; exact bF L25 (by kernel_rfl) H
theorem b25_3 {h : AH} {Q : Value → AH → Prop} (H :
 Q (I 10) h
) : A25_3 Q  h := by intro e _; exact bF L25 (by kernel_rfl) H
theorem b25_4 {h : AH} {Q : Value → AH → Prop} {t3 t4 t22 t23 : Value} (H :
 thn (biI .add t23 (I 1)) fun v0 =>
 A25_1 Q t3 t4 t22 v0 h
) : A25_4 Q t3 t4 t22 t23 h := by intro e he; cases he; exact bF L25 (by kernel_rfl) H
theorem c25 {h : AH} {Q : Value → AH → Prop} {a0 : Value} (H : A25_0 Q a0 h) : Cl Pr K 25 [a0] h Q :=
  ok_enter (by kernel_rfl) (by kernel_rfl) (Eq.mp (by kernel_rfl) (H (fun i => ([a0] : List Value).getD i undef) rfl))

/-! ### 26 donjon/bank.New: params 1, captured 0, results [tmp 2, tmp 3] -/
noncomputable def L26 : List (Option Nat × List Nat) := [(some 0, [0]), (some 4, [1]), (some 6, [1, 5, 20, 21]), (some 7, [1, 5, 20, 21])]
noncomputable def A26_0 (Q : Value → AH → Prop) (t0 : Value) (h : AH) : Prop := Pt Pr K 26 none (retV Pr 26 Q) 45 [0] [.code (cc 26 2), .code (cc 26 3)] [] [t0] h
noncomputable def A26_1 (Q : Value → AH → Prop) (t1 : Value) (h : AH) : Prop := Pt Pr K 26 none (retV Pr 26 Q) 45 [1] [.code (cc 26 14), .code (cc 26 15)] [] [t1] h
noncomputable def A26_2 (Q : Value → AH → Prop) (t1 t5 t20 t21 : Value) (h : AH) : Prop := Pt Pr K 26 none (retV Pr 26 Q) 45 [1, 5, 20, 21] [.code (cc 26 488), .code (cc 26 489), .inLoop (cc 26 244), .inBlock 0, .code (cc 26 31)] [] [t1, t5, t20, t21] h
noncomputable def A26_3 (Q : Value → AH → Prop) (t1 t5 t20 t21 : Value) (h : AH) : Prop := Pt Pr K 26 none (retV Pr 26 Q) 45 [1, 5, 20, 21] [.code (cc 26 7832), .code (cc 26 7833), .inBlock 1, .code (cc 26 1959), .inLoop (cc 26 244), .inBlock 0, .code (cc 26 31)] [] [t1, t5, t20, t21] h
theorem b26_0 {h : AH} {Q : Value → AH → Prop} {t0 : Value} (H :
 thn (blkOf 30 t0) fun b1 =>
 alc h b1 fun p2 h0 =>
 thn (ldN h0 7 (pt p2 0 0)) fun v3 =>
 Cl Pr K 25 [v3] h0 fun v4 h4 => -- donjon/place.Check
 thn (biI .neq v4 (I 0)) fun v5 =>
 Br v5 (
 Q (.tuple ⟨[(.pointer none), v4]⟩) h4) (
 A26_1 Q (pt p2 0 0) h4)
) : A26_0 Q t0 h := by intro e he; cases he; exact bF L26 (by kernel_rfl) H
theorem b26_1 {h : AH} {Q : Value → AH → Prop} {t1 : Value} (H :
 resv h 7 fun r1 h0 =>
 thn (ldN h0 7 t1) fun v2 =>
 thn (padd 6 t1) fun v3 =>
 thn (ld1 h0 v3) fun v4 =>
 thn (mkS 40 v4 v4) fun n6 =>
 alcSAt h0 (r1 + 3) 3 94 (zerosA [(I 0), (I 0), (.slice none 0 0)] n6.2) n6.1 n6.2 fun s7 h5 =>
 thn (fillL [(I 0), (I 0), (I 0), (I 0), (I 0), (I 0), (I 0), (.slice none 0 0)] [(0, 7, v2), (7, 1, s7)]) fun c8 =>
 thn (blkOf 107 (.agg ⟨c8⟩)) fun b10 =>
 alcAt h5 (r1 + 5) b10 fun p11 h9 =>
 thn (ldN h9 7 t1) fun v12 =>
 Cl Pr K 27 [v12] h9 fun v13 h13 => -- donjon/place.Lines
 A26_2 Q t1 (pt p11 0 0) v13 (I 0) h13
) : A26_1 Q t1 h := by intro e he; cases he; exact bF L26 (by kernel_rfl) H
theorem b26_2 {h : AH} {Q : Value → AH → Prop} {t1 t5 t20 t21 : Value} (H :
 thn (biI .lss t21 t20) fun v0 =>
 Br v0 (
 A26_3 Q t1 t5 t20 t21 h) (
 Q (.tuple ⟨[t5, (I 0)]⟩) h)
) : A26_2 Q t1 t5 t20 t21 h := by intro e he; cases he; exact bF L26 (by kernel_rfl) H
theorem b26_3 {h : AH} {Q : Value → AH → Prop} {t1 t5 t20 t21 : Value} (H :
 resv h 10 fun r1 h0 =>
 thn (nilV t5) fun v2 =>
 thn (padd 7 v2) fun v3 =>
 thn (ld1 h0 v3) fun v4 =>
 thn (padd 6 t1) fun v5 =>
 thn (ld1 h0 v5) fun v6 =>
 thn (biI .rem t21 v6) fun v7 =>
 thn (idxS 3 v4 v7) fun v8 =>
 thn (nilV v8) fun v9 =>
 thn (padd 2 v9) fun v10 =>
 thn (ld1 h0 v10) fun v11 =>
 thn (fillL [(I 0), (I 0)] []) fun c12 =>
 thn (fillL [(I 0), (I 0)] [(0, 2, (.agg ⟨c12⟩))]) fun l14 =>
 alcS h0 2 36 l14 1 1 fun s15 h13 =>
 thn (appV 2 16 36 h13 v11 s15) fun r16 => (fun v17 h18 =>
 thn (nilV v8) fun v19 =>
 thn (padd 2 v19) fun v20 =>
 thn (stV h18 1 v20 v17) fun h21 =>
 thn (biI .add t21 (I 1)) fun v22 =>
 A26_2 Q t1 t5 t20 v22 h21) r16.1 r16.2
) : A26_3 Q t1 t5 t20 t21 h := by intro e he; cases he; exact bF L26 (by kernel_rfl) H
theorem c26 {h : AH} {Q : Value → AH → Prop} {a0 : Value} (H : A26_0 Q a0 h) : Cl Pr K 26 [a0] h Q :=
  ok_enter (by kernel_rfl) (by kernel_rfl) (Eq.mp (by kernel_rfl) (H (fun i => ([a0] : List Value).getD i undef) rfl))

/-! ### 27 donjon/place.Lines: params 1, captured 0, results [tmp 2] -/
noncomputable def L27 : List (Option Nat × List Nat) := [(some 0, [0])]
noncomputable def A27_0 (Q : Value → AH → Prop) (t0 : Value) (h : AH) : Prop := Pt Pr K 27 none (retV Pr 27 Q) 9 [0] [.code (cc 27 2), .code (cc 27 3)] [] [t0] h
theorem b27_0 {h : AH} {Q : Value → AH → Prop} {t0 : Value} (H :
 thn (blkOf 30 t0) fun b1 =>
 alc h b1 fun p2 h0 =>
 thn (ldN h0 7 (pt p2 0 0)) fun v3 =>
 Cl Pr K 25 [v3] h0 fun v4 h4 => -- donjon/place.Check
 thn (biI .neq v4 (I 0)) fun v5 =>
 Br v5 (
 Q (I 0) h4) (
 thn (padd 1 (pt p2 0 0)) fun v6 =>
 thn (ld1 h4 v6) fun v7 =>
 thn (biI .mul v7 (I 2)) fun v8 =>
 Q v8 h4)
) : A27_0 Q t0 h := by intro e he; cases he; exact bF L27 (by kernel_rfl) H
theorem c27 {h : AH} {Q : Value → AH → Prop} {a0 : Value} (H : A27_0 Q a0 h) : Cl Pr K 27 [a0] h Q :=
  ok_enter (by kernel_rfl) (by kernel_rfl) (Eq.mp (by kernel_rfl) (H (fun i => ([a0] : List Value).getD i undef) rfl))

/-! ### 28 (*donjon/home.Home).has: params 2, captured 0, results [tmp 4] -/
noncomputable def L28 : List (Option Nat × List Nat) := [(some 0, [0, 1])]
noncomputable def A28_0 (Q : Value → AH → Prop) (t0 t1 : Value) (h : AH) : Prop := Pt Pr K 28 none (retV Pr 28 Q) 20 [0, 1] [.code (cc 28 2), .code (cc 28 3)] [] [t0, t1] h
theorem b28_0 {h : AH} {Q : Value → AH → Prop} {t0 t1 : Value} (H :
 thn (biP .neq t0 (.pointer none)) fun v0 =>
 Br v0 (
 thn (biI .geq t1 (I 0)) fun v1 =>
 Br v1 (
 thn (nilV t0) fun v2 =>
 thn (padd 8 v2) fun v3 =>
 thn (ld1 h v3) fun v4 =>
 thn (lenS v4) fun v5 =>
 thn (biI .lss t1 v5) fun v6 =>
 Q v6 h) (
 Q (.bool false) h)) (
 Q (.bool false) h)
) : A28_0 Q t0 t1 h := by intro e he; cases he; exact bF L28 (by kernel_rfl) H
theorem c28 {h : AH} {Q : Value → AH → Prop} {a0 a1 : Value} (H : A28_0 Q a0 a1 h) : Cl Pr K 28 [a0, a1] h Q :=
  ok_enter (by kernel_rfl) (by kernel_rfl) (Eq.mp (by kernel_rfl) (H (fun i => ([a0, a1] : List Value).getD i undef) rfl))

/-! ### 29 (*donjon/home.row).free: params 1, captured 0, results [] -/
noncomputable def L29 : List (Option Nat × List Nat) := [(some 0, [0])]
noncomputable def A29_0 (Q : Value → AH → Prop) (t0 : Value) (h : AH) : Prop := Pt Pr K 29 none (retV Pr 29 Q) 22 [0] [.code (cc 29 2), .code (cc 29 3)] [] [t0] h
theorem b29_0 {h : AH} {Q : Value → AH → Prop} {t0 : Value} (H :
 thn (nilV t0) fun v0 =>
 thn (padd 6 v0) fun v1 =>
 thn (stV h 1 v1 (.bool false)) fun h2 =>
 thn (nilV t0) fun v3 =>
 thn (padd 21 v3) fun v4 =>
 thn (stV h2 1 v4 (.bool false)) fun h5 =>
 thn (nilV t0) fun v6 =>
 thn (padd 22 v6) fun v7 =>
 thn (stV h5 1 v7 (.bool false)) fun h8 =>
 thn (fillL [(I 0), (I 0), (I 0), (I 0), (I 0), (I 0), (I 0), (.bool false), (I 0)] []) fun c9 =>
 thn (fillL [(I 0), (I 0)] []) fun c10 =>
 thn (nilV t0) fun v11 =>
 thn (padd 7 v11) fun v12 =>
 thn (stV h8 9 v12 (.agg ⟨c9⟩)) fun h13 =>
 thn (nilV t0) fun v14 =>
 thn (padd 16 v14) fun v15 =>
 thn (stV h13 1 v15 (I 0)) fun h16 =>
 thn (nilV t0) fun v17 =>
 thn (padd 23 v17) fun v18 =>
 thn (stV h16 2 v18 (.agg ⟨c10⟩)) fun h19 =>
 Q (.tuple ⟨[]⟩) h19
) : A29_0 Q t0 h := by intro e he; cases he; exact bF L29 (by kernel_rfl) H
theorem c29 {h : AH} {Q : Value → AH → Prop} {a0 : Value} (H : A29_0 Q a0 h) : Cl Pr K 29 [a0] h Q :=
  ok_enter (by kernel_rfl) (by kernel_rfl) (Eq.mp (by kernel_rfl) (H (fun i => ([a0] : List Value).getD i undef) rfl))

/-! ### 30 (*donjon/home.Home).reply: params 2, captured 0, results [tmp 4] -/
noncomputable def L30 : List (Option Nat × List Nat) := [(some 0, [0, 1]), (some 5, [0, 3, 5]), (some 4, [0, 3, 5]), (some 7, [0, 3, 5]), (some 12, [0, 3, 5]), (some 8, [0, 3, 5]), (some 10, [0, 3, 5]), (some 14, [0, 3, 5]), (some 11, [0, 3, 5]), (some 15, [5])]
noncomputable def A30_0 (Q : Value → AH → Prop) (t0 t1 : Value) (h : AH) : Prop := Pt Pr K 30 none (retV Pr 30 Q) 85 [0, 1] [.code (cc 30 2), .code (cc 30 3)] [] [t0, t1] h
noncomputable def A30_1 (Q : Value → AH → Prop) (t0 t3 t5 : Value) (h : AH) : Prop := Pt Pr K 30 none (retV Pr 30 Q) 85 [0, 3, 5] [.code (cc 30 7684), .code (cc 30 7685), .code (cc 30 3843), .inBlock 2, .code (cc 30 481), .inBlock 3, .code (cc 30 121), .inBlock 0, .code (cc 30 31)] [] [t0, t3, t5] h
noncomputable def A30_2 (Q : Value → AH → Prop) (t0 t3 t5 : Value) (h : AH) : Prop := Pt Pr K 30 none (retV Pr 30 Q) 85 [0, 3, 5] [.code (cc 30 30722), .code (cc 30 30723), .code (cc 30 7681), .inBlock 1, .code (cc 30 1921), .inBlock 2, .code (cc 30 481), .inBlock 3, .code (cc 30 121), .inBlock 0, .code (cc 30 31)] [] [t0, t3, t5] h
noncomputable def A30_3 (Q : Value → AH → Prop) (t0 t3 t5 : Value) (h : AH) : Prop := Pt Pr K 30 none (retV Pr 30 Q) 85 [0, 3, 5] [.code (cc 30 30742), .code (cc 30 3843), .inBlock 2, .code (cc 30 481), .inBlock 3, .code (cc 30 121), .inBlock 0, .code (cc 30 31)] [] [t0, t3, t5] h
noncomputable def A30_4 (Q : Value → AH → Prop) (t0 t3 t5 : Value) (h : AH) : Prop := Pt Pr K 30 none (retV Pr 30 Q) 85 [0, 3, 5] [.code (cc 30 124), .code (cc 30 125), .code (cc 30 63)] [] [t0, t3, t5] h
noncomputable def A30_5 (Q : Value → AH → Prop) (t0 t3 t5 : Value) (h : AH) : Prop := Pt Pr K 30 none (retV Pr 30 Q) 85 [0, 3, 5] [.code (cc 30 962), .code (cc 30 963), .inBlock 3, .code (cc 30 121), .inBlock 0, .code (cc 30 31)] [] [t0, t3, t5] h
noncomputable def A30_6 (Q : Value → AH → Prop) (t0 t3 t5 : Value) (h : AH) : Prop := Pt Pr K 30 none (retV Pr 30 Q) 85 [0, 3, 5] [.code (cc 30 484), .code (cc 30 485), .code (cc 30 243), .inBlock 0, .code (cc 30 31)] [] [t0, t3, t5] h
noncomputable def A30_7 (Q : Value → AH → Prop) (t0 t3 t5 : Value) (h : AH) : Prop := Pt Pr K 30 none (retV Pr 30 Q) 85 [0, 3, 5] [.code (cc 30 252), .code (cc 30 253), .code (cc 30 127)] [] [t0, t3, t5] h
noncomputable def A30_8 (Q : Value → AH → Prop) (t0 t3 t5 : Value) (h : AH) : Prop := Pt Pr K 30 none (retV Pr 30 Q) 85 [0, 3, 5] [.code (cc 30 970), .code (cc 30 243), .inBlock 0, .code (cc 30 31)] [] [t0, t3, t5] h
noncomputable def A30_9 (Q : Value → AH → Prop) (t5 : Value) (h : AH) : Prop := Pt Pr K 30 none (retV Pr 30 Q) 85 [5] [.code (cc 30 1012), .code (cc 30 1013), .code (cc 30 127)] [] [t5] h
theorem b30_0 {h : AH} {Q : Value → AH → Prop} {t0 t1 : Value} (H :
 thn (blkOf 38 t1) fun b1 =>
 alc h b1 fun p2 h0 =>
 resv h0 8 fun r4 h3 =>
 thn (nilV t0) fun v5 =>
 thn (padd 8 v5) fun v6 =>
 thn (ld1 h3 v6) fun v7 =>
 thn (padd 2 (pt p2 0 0)) fun v8 =>
 thn (ld1 h3 v8) fun v9 =>
 thn (idxS 25 v7 v9) fun v10 =>
 resv h3 7 fun r12 h11 =>
 thn (padd 1 (pt p2 0 0)) fun v13 =>
 thn (ld1 h11 v13) fun v14 =>
 thn (nilV v10) fun v15 =>
 thn (padd 17 v15) fun v16 =>
 thn (idxA 4 1 v16 v14) fun v17 =>
 thn (stV h11 1 v17 (.bool false)) fun h18 =>
 thn (nilV v10) fun v19 =>
 thn (padd 7 v19) fun v20 =>
 thn (padd 0 v20) fun v21 =>
 thn (ld1 h18 v21) fun v22 =>
 thn (biI .neq v22 (I 1)) fun v23 =>
 Br v23 (
 A30_1 Q t0 (pt p2 0 0) v10 h18) (
 A30_2 Q t0 (pt p2 0 0) v10 h18)
) : A30_0 Q t0 t1 h := by intro e he; cases he; exact bF L30 (by kernel_rfl) H
theorem b30_1 {h : AH} {Q : Value → AH → Prop} {t0 t3 t5 : Value} (H :
 thn (padd 1 t3) fun v0 =>
 thn (ld1 h v0) fun v1 =>
 Cl Pr K 32 [t5, v1] h fun v2 h2 => -- (*donjon/home.row).leave
 thn (padd 7 t3) fun v3 =>
 thn (ld1 h2 v3) fun v4 =>
 Br v4 (
 A30_3 Q t0 t3 t5 h2) (
 A30_4 Q t0 t3 t5 h2)
) : A30_1 Q t0 t3 t5 h := by intro e he; cases he; exact bF L30 (by kernel_rfl) H
theorem b30_2 {h : AH} {Q : Value → AH → Prop} {t0 t3 t5 : Value} (H :
 thn (padd 4 t3) fun v0 =>
 thn (ld1 h v0) fun v1 =>
 thn (biI .neq v1 (I 3)) fun v2 =>
 Br v2 (
 A30_5 Q t0 t3 t5 h) (
 A30_6 Q t0 t3 t5 h)
) : A30_2 Q t0 t3 t5 h := by intro e he; cases he; exact bF L30 (by kernel_rfl) H
theorem b30_3 {h : AH} {Q : Value → AH → Prop} {t0 t3 t5 : Value} (H :
 resv h 9 fun r1 h0 =>
 thn (nilV t0) fun v2 =>
 thn (padd 0 v2) fun v3 =>
 thn (ld1 h0 v3) fun v4 =>
 thn (padd 2 t3) fun v5 =>
 thn (ld1 h0 v5) fun v6 =>
 thn (padd 5 t3) fun v7 =>
 thn (ldN h0 2 v7) fun v8 =>
 Cl Pr K 31 [v4, v6, v8] h0 fun v9 h9 => -- (*donjon/bank.Memory).Write
 thn (nilV t5) fun v10 =>
 thn (padd 17 v10) fun v11 =>
 thn (ldN h9 4 v11) fun v12 =>
 thn (fillL [(.bool false), (.bool false), (.bool false), (.bool false)] []) fun c13 =>
 thn (biA [1, 1, 1, 1] .neq v12 (.agg ⟨c13⟩)) fun v14 =>
 Br v14 (
 Q (.slice none 0 0) h9) (
 A30_7 Q t0 t3 t5 h9)
) : A30_3 Q t0 t3 t5 h := by intro e he; cases he; exact bF L30 (by kernel_rfl) H
theorem b30_4 {h : AH} {Q : Value → AH → Prop} {t0 t3 t5 : Value} (H :
 thn (nilV t5) fun v0 =>
 thn (padd 17 v0) fun v1 =>
 thn (ldN h 4 v1) fun v2 =>
 thn (fillL [(.bool false), (.bool false), (.bool false), (.bool false)] []) fun c3 =>
 thn (biA [1, 1, 1, 1] .neq v2 (.agg ⟨c3⟩)) fun v4 =>
 Br v4 (
 Q (.slice none 0 0) h) (
 A30_7 Q t0 t3 t5 h)
) : A30_4 Q t0 t3 t5 h := by intro e he; cases he; exact bF L30 (by kernel_rfl) H
theorem b30_5 {h : AH} {Q : Value → AH → Prop} {t0 t3 t5 : Value} (H :
 thn (nilV t5) fun v0 =>
 thn (padd 0 v0) fun v1 =>
 thn (stV h 1 v1 (I (-1))) fun h2 =>
 resv h2 10 fun r4 h3 =>
 thn (padd 1 t3) fun v5 =>
 thn (ld1 h3 v5) fun v6 =>
 thn (padd 4 t3) fun v7 =>
 thn (ld1 h3 v7) fun v8 =>
 Cl Pr K 46 [v8] h3 fun v9 h9 => -- donjon/moesi.Valid
 thn (nilV t5) fun v10 =>
 thn (padd 1 v10) fun v11 =>
 thn (idxA 4 1 v11 v6) fun v12 =>
 thn (stV h9 1 v12 v9) fun h13 =>
(veq t5 t5 = true) ∧ (
(thn (padd 1 t3) fun v14 =>
 veq v14 v5 = true) ∧ (
(thn (ld1 h9 v5) fun v15 =>
 veq v15 v6 = true) ∧ (
(thn (nilV t5) fun v16 =>
 veq v16 v10 = true) ∧ (
(thn (padd 1 v10) fun v17 =>
 veq v17 v11 = true) ∧ (
 thn (padd 7 t3) fun v18 =>
 thn (ld1 h13 v18) fun v19 =>
 Br v19 (
 A30_8 Q t0 t3 t5 h13) (
 A30_4 Q t0 t3 t5 h13))))))
) : A30_5 Q t0 t3 t5 h := by intro e he; cases he; exact bF L30 (by kernel_rfl) H
theorem b30_6 {h : AH} {Q : Value → AH → Prop} {t0 t3 t5 : Value} (H :
 thn (padd 7 t3) fun v0 =>
 thn (ld1 h v0) fun v1 =>
 Br v1 (
 A30_8 Q t0 t3 t5 h) (
 A30_4 Q t0 t3 t5 h)
) : A30_6 Q t0 t3 t5 h := by intro e he; cases he; exact bF L30 (by kernel_rfl) H
theorem b30_7 {h : AH} {Q : Value → AH → Prop} {t0 t3 t5 : Value} (H :
 thn (nilV t5) fun v0 =>
 thn (padd 7 v0) fun v1 =>
 thn (padd 0 v1) fun v2 =>
 thn (ld1 h v2) fun v3 =>
 thn (biI .eql v3 (I 0)) fun v4 =>
 Br v4 (
 A30_9 Q t5 h) (
 thn (padd 2 t3) fun v5 =>
 thn (ld1 h v5) fun v6 =>
 Cl Pr K 47 [t0, v6] h fun v7 h7 => -- (*donjon/home.Home).grant
 Q v7 h7)
) : A30_7 Q t0 t3 t5 h := by intro e he; cases he; exact bF L30 (by kernel_rfl) H
theorem b30_8 {h : AH} {Q : Value → AH → Prop} {t0 t3 t5 : Value} (H :
 resv h 10 fun r1 h0 =>
 thn (padd 5 t3) fun v2 =>
 thn (ldN h0 2 v2) fun v3 =>
 thn (nilV t5) fun v4 =>
 thn (padd 22 v4) fun v5 =>
 thn (stV h0 1 v5 (.bool true)) fun h6 =>
 thn (nilV t5) fun v7 =>
 thn (padd 23 v7) fun v8 =>
 thn (stV h6 2 v8 v3) fun h9 =>
(veq t5 t5 = true) ∧ (
(thn (padd 5 t3) fun v10 =>
 veq v10 v2 = true) ∧ (
(thn (ldN h6 2 v2) fun v11 =>
 veq v11 v3 = true) ∧ (
 thn (nilV t5) fun v12 =>
 thn (padd 17 v12) fun v13 =>
 thn (ldN h9 4 v13) fun v14 =>
 thn (fillL [(.bool false), (.bool false), (.bool false), (.bool false)] []) fun c15 =>
 thn (biA [1, 1, 1, 1] .neq v14 (.agg ⟨c15⟩)) fun v16 =>
 Br v16 (
 Q (.slice none 0 0) h9) (
 A30_7 Q t0 t3 t5 h9))))
) : A30_8 Q t0 t3 t5 h := by intro e he; cases he; exact bF L30 (by kernel_rfl) H
theorem b30_9 {h : AH} {Q : Value → AH → Prop} {t5 : Value} (H :
 Cl Pr K 29 [t5] h fun v0 h0 => -- (*donjon/home.row).free
 Q (.slice none 0 0) h0
) : A30_9 Q t5 h := by intro e he; cases he; exact bF L30 (by kernel_rfl) H
theorem c30 {h : AH} {Q : Value → AH → Prop} {a0 a1 : Value} (H : A30_0 Q a0 a1 h) : Cl Pr K 30 [a0, a1] h Q :=
  ok_enter (by kernel_rfl) (by kernel_rfl) (Eq.mp (by kernel_rfl) (H (fun i => ([a0, a1] : List Value).getD i undef) rfl))

/-! ### 31 (*donjon/bank.Memory).Write: params 3, captured 0, results [tmp 6] -/
noncomputable def L31 : List (Option Nat × List Nat) := [(some 0, [0, 1, 2]), (some 4, [5, 7, 8])]
noncomputable def A31_0 (Q : Value → AH → Prop) (t0 t1 t2 : Value) (h : AH) : Prop := Pt Pr K 31 none (retV Pr 31 Q) 36 [0, 1, 2] [.code (cc 31 2), .code (cc 31 3)] [] [t0, t1, t2] h
noncomputable def A31_1 (Q : Value → AH → Prop) (t5 t7 t8 : Value) (h : AH) : Prop := Pt Pr K 31 none (retV Pr 31 Q) 36 [5, 7, 8] [.code (cc 31 30), .code (cc 31 31)] [] [t5, t7, t8] h
theorem b31_0 {h : AH} {Q : Value → AH → Prop} {t0 t1 t2 : Value} (H :
 thn (blkOf 36 t2) fun b1 =>
 alc h b1 fun p2 h0 =>
 Cl Pr K 38 [t0, t1] h0 fun v3 h3 => -- (*donjon/bank.Memory).find
 thn (extV 0 v3) fun v4 =>
 thn (extV 1 v3) fun v5 =>
 thn (extV 2 v3) fun v6 =>
 thn (biI .neq v6 (I 0)) fun v7 =>
 Br v7 (
 Q v6 h3) (
 A31_1 Q (pt p2 0 0) v4 v5 h3)
) : A31_0 Q t0 t1 t2 h := by intro e he; cases he; exact bF L31 (by kernel_rfl) H
theorem b31_1 {h : AH} {Q : Value → AH → Prop} {t5 t7 t8 : Value} (H :
 thn (nilV t7) fun v0 =>
 thn (padd 0 v0) fun v1 =>
 thn (padd 1 v1) fun v2 =>
 thn (ld1 h v2) fun v3 =>
 thn (biI .add v3 (I 1)) fun v4 =>
 thn (nilV t7) fun v5 =>
 thn (padd 0 v5) fun v6 =>
 thn (padd 1 v6) fun v7 =>
 thn (stV h 1 v7 v4) fun h8 =>
 resv h8 8 fun r10 h9 =>
 thn (nilV t7) fun v11 =>
 thn (padd 2 v11) fun v12 =>
 thn (ld1 h9 v12) fun v13 =>
 thn (ldN h9 2 t5) fun v14 =>
 thn (idxS 2 v13 t8) fun v15 =>
 thn (stV h9 2 v15 v14) fun h16 =>
 Q (I 0) h16
) : A31_1 Q t5 t7 t8 h := by intro e he; cases he; exact bF L31 (by kernel_rfl) H
theorem c31 {h : AH} {Q : Value → AH → Prop} {a0 a1 a2 : Value} (H : A31_0 Q a0 a1 a2 h) : Cl Pr K 31 [a0, a1, a2] h Q :=
  ok_enter (by kernel_rfl) (by kernel_rfl) (Eq.mp (by kernel_rfl) (H (fun i => ([a0, a1, a2] : List Value).getD i undef) rfl))

/-! ### 32 (*donjon/home.row).leave: params 2, captured 0, results [] -/
noncomputable def L32 : List (Option Nat × List Nat) := [(some 0, [0, 1])]
noncomputable def A32_0 (Q : Value → AH → Prop) (t0 t1 : Value) (h : AH) : Prop := Pt Pr K 32 none (retV Pr 32 Q) 18 [0, 1] [.code (cc 32 2), .code (cc 32 3)] [] [t0, t1] h
theorem b32_0 {h : AH} {Q : Value → AH → Prop} {t0 t1 : Value} (H :
 thn (nilV t0) fun v0 =>
 thn (padd 1 v0) fun v1 =>
 thn (idxA 4 1 v1 t1) fun v2 =>
 thn (stV h 1 v2 (.bool false)) fun h3 =>
 thn (nilV t0) fun v4 =>
 thn (padd 0 v4) fun v5 =>
 thn (ld1 h3 v5) fun v6 =>
 thn (biI .eql v6 t1) fun v7 =>
 Br v7 (
 thn (nilV t0) fun v8 =>
 thn (padd 0 v8) fun v9 =>
 thn (stV h3 1 v9 (I (-1))) fun h10 =>
 Q (.tuple ⟨[]⟩) h10) (
 Q (.tuple ⟨[]⟩) h3)
) : A32_0 Q t0 t1 h := by intro e he; cases he; exact bF L32 (by kernel_rfl) H
theorem c32 {h : AH} {Q : Value → AH → Prop} {a0 a1 : Value} (H : A32_0 Q a0 a1 h) : Cl Pr K 32 [a0, a1] h Q :=
  ok_enter (by kernel_rfl) (by kernel_rfl) (Eq.mp (by kernel_rfl) (H (fun i => ([a0, a1] : List Value).getD i undef) rfl))

/-! ### 34 (*donjon/home.Home).get: params 4, captured 0, results [tmp 8] -/
noncomputable def L34 : List (Option Nat × List Nat) := [(some 0, [0, 1, 2, 3]), (some 4, [0, 1, 7, 9]), (some 7, [0, 1, 7, 9]), (some 8, [0, 1, 9]), (some 9, [0, 1, 9])]
noncomputable def A34_0 (Q : Value → AH → Prop) (t0 t1 t2 t3 : Value) (h : AH) : Prop := Pt Pr K 34 none (retV Pr 34 Q) 72 [0, 1, 2, 3] [.code (cc 34 2), .code (cc 34 3)] [] [t0, t1, t2, t3] h
noncomputable def A34_1 (Q : Value → AH → Prop) (t0 t1 t7 t9 : Value) (h : AH) : Prop := Pt Pr K 34 none (retV Pr 34 Q) 72 [0, 1, 7, 9] [.code (cc 34 488), .code (cc 34 489), .code (cc 34 245), .code (cc 34 31)] [] [t0, t1, t7, t9] h
noncomputable def A34_2 (Q : Value → AH → Prop) (t0 t1 t7 t9 : Value) (h : AH) : Prop := Pt Pr K 34 none (retV Pr 34 Q) 72 [0, 1, 7, 9] [.code (cc 34 124), .code (cc 34 125), .code (cc 34 63)] [] [t0, t1, t7, t9] h
noncomputable def A34_3 (Q : Value → AH → Prop) (t0 t1 t9 : Value) (h : AH) : Prop := Pt Pr K 34 none (retV Pr 34 Q) 72 [0, 1, 9] [.code (cc 34 250), .code (cc 34 63)] [] [t0, t1, t9] h
noncomputable def A34_4 (Q : Value → AH → Prop) (t0 t1 t9 : Value) (h : AH) : Prop := Pt Pr K 34 none (retV Pr 34 Q) 72 [0, 1, 9] [.code (cc 34 252), .code (cc 34 253), .code (cc 34 127)] [] [t0, t1, t9] h
theorem b34_0 {h : AH} {Q : Value → AH → Prop} {t0 t1 t2 t3 : Value} (H :
 thn (blkOf 38 t3) fun b1 =>
 alc h b1 fun p2 h0 =>
 thn (nilV t0) fun v3 =>
 thn (padd 8 v3) fun v4 =>
 thn (ld1 h0 v4) fun v5 =>
 thn (idxS 25 v5 t1) fun v6 =>
 resv h0 14 fun r8 h7 =>
 thn (ldN h7 9 (pt p2 0 0)) fun v9 =>
 thn (nilV v6) fun v10 =>
 thn (padd 6 v10) fun v11 =>
 thn (stV h7 1 v11 (.bool true)) fun h12 =>
 thn (nilV v6) fun v13 =>
 thn (padd 7 v13) fun v14 =>
 thn (stV h12 9 v14 v9) fun h15 =>
 thn (nilV v6) fun v16 =>
 thn (padd 16 v16) fun v17 =>
 thn (stV h15 1 v17 t2) fun h18 =>
(veq v6 v6 = true) ∧ (
(veq v6 v6 = true) ∧ (
(veq v6 v6 = true) ∧ (
(thn (ldN h12 9 (pt p2 0 0)) fun v19 =>
 veq v19 v9 = true) ∧ (
(veq t2 t2 = true) ∧ (
(veq t2 t2 = true) ∧ (
 thn (padd 0 (pt p2 0 0)) fun v20 =>
 thn (ld1 h18 v20) fun v21 =>
 thn (biI .eql v21 (I 2)) fun v22 =>
 Br v22 (
 A34_1 Q t0 t1 (pt p2 0 0) v6 h18) (
 A34_2 Q t0 t1 (pt p2 0 0) v6 h18)))))))
) : A34_0 Q t0 t1 t2 t3 h := by intro e he; cases he; exact bF L34 (by kernel_rfl) H
theorem b34_1 {h : AH} {Q : Value → AH → Prop} {t0 t1 t7 t9 : Value} (H :
 thn (padd 1 t7) fun v0 =>
 thn (ld1 h v0) fun v1 =>
 Cl Pr K 35 [t9, v1] h fun v2 h2 => -- (*donjon/home.row).first
 thn (biI .neq v2 (I (-1))) fun v3 =>
 Br v3 (
 thn (padd 1 t7) fun v4 =>
 thn (ld1 h2 v4) fun v5 =>
 Cl Pr K 37 [t9, v5] h2 fun v6 h6 => -- (*donjon/home.row).holders
 Cl Pr K 36 [t9, t1, (I 0), v6] h6 fun v7 h7 => -- (*donjon/home.row).probe
 Q v7 h7) (
 Cl Pr K 47 [t0, t1] h2 fun v4 h4 => -- (*donjon/home.Home).grant
 Q v4 h4)
) : A34_1 Q t0 t1 t7 t9 h := by intro e he; cases he; exact bF L34 (by kernel_rfl) H
theorem b34_2 {h : AH} {Q : Value → AH → Prop} {t0 t1 t7 t9 : Value} (H :
 resv h 7 fun r1 h0 =>
 thn (nilV t9) fun v2 =>
 thn (padd 0 v2) fun v3 =>
 thn (ld1 h0 v3) fun v4 =>
 thn (padd 1 t7) fun v5 =>
 thn (ld1 h0 v5) fun v6 =>
 thn (biI .eql v4 v6) fun v7 =>
 Br v7 (
 A34_3 Q t0 t1 t9 h0) (
 A34_4 Q t0 t1 t9 h0)
) : A34_2 Q t0 t1 t7 t9 h := by intro e he; cases he; exact bF L34 (by kernel_rfl) H
theorem b34_3 {h : AH} {Q : Value → AH → Prop} {t0 t1 t9 : Value} (H :
 thn (nilV t9) fun v0 =>
 thn (padd 0 v0) fun v1 =>
 thn (stV h 1 v1 (I (-1))) fun h2 =>
 thn (nilV t9) fun v3 =>
 thn (padd 0 v3) fun v4 =>
 thn (ld1 h2 v4) fun v5 =>
 thn (biI .neq v5 (I (-1))) fun v6 =>
 Br v6 (
 thn (nilV t9) fun v7 =>
 thn (padd 0 v7) fun v8 =>
 thn (ld1 h2 v8) fun v9 =>
 thn (fillL [(I 0)] [(0, 1, v9)]) fun l11 =>
 alcS h2 1 3 l11 1 1 fun s12 h10 =>
 Cl Pr K 49 [s12] h10 fun v13 h13 => -- slices.Values[[]int,int]
 Cl Pr K 36 [t9, t1, (I 1), v13] h13 fun v14 h14 => -- (*donjon/home.row).probe
 Q v14 h14) (
 Cl Pr K 47 [t0, t1] h2 fun v7 h7 => -- (*donjon/home.Home).grant
 Q v7 h7)
) : A34_3 Q t0 t1 t9 h := by intro e he; cases he; exact bF L34 (by kernel_rfl) H
theorem b34_4 {h : AH} {Q : Value → AH → Prop} {t0 t1 t9 : Value} (H :
 thn (nilV t9) fun v0 =>
 thn (padd 0 v0) fun v1 =>
 thn (ld1 h v1) fun v2 =>
 thn (biI .neq v2 (I (-1))) fun v3 =>
 Br v3 (
 thn (nilV t9) fun v4 =>
 thn (padd 0 v4) fun v5 =>
 thn (ld1 h v5) fun v6 =>
 thn (fillL [(I 0)] [(0, 1, v6)]) fun l8 =>
 alcS h 1 3 l8 1 1 fun s9 h7 =>
 Cl Pr K 49 [s9] h7 fun v10 h10 => -- slices.Values[[]int,int]
 Cl Pr K 36 [t9, t1, (I 1), v10] h10 fun v11 h11 => -- (*donjon/home.row).probe
 Q v11 h11) (
 Cl Pr K 47 [t0, t1] h fun v4 h4 => -- (*donjon/home.Home).grant
 Q v4 h4)
) : A34_4 Q t0 t1 t9 h := by intro e he; cases he; exact bF L34 (by kernel_rfl) H
theorem c34 {h : AH} {Q : Value → AH → Prop} {a0 a1 a2 a3 : Value} (H : A34_0 Q a0 a1 a2 a3 h) : Cl Pr K 34 [a0, a1, a2, a3] h Q :=
  ok_enter (by kernel_rfl) (by kernel_rfl) (Eq.mp (by kernel_rfl) (H (fun i => ([a0, a1, a2, a3] : List Value).getD i undef) rfl))

/-! ### 35 (*donjon/home.row).first: params 2, captured 0, results [tmp 4] -/
noncomputable def L35 : List (Option Nat × List Nat) := [(some 0, [0, 1, 20]), (some 3, [0, 1, 5, 11, 12, 20]), (some 4, [0, 1, 5, 11, 12, 20]), (some 9, [0, 1, 5, 6, 11, 12, 20]), (some 6, [0, 1, 5, 6, 7, 11, 12]), (some 7, [0, 1, 5, 6, 11, 12]), (some 8, [6])]
noncomputable def A35_0 (Q : Value → AH → Prop) (t0 t1 t20 : Value) (h : AH) : Prop := Pt Pr K 35 none (retV Pr 35 Q) 31 [0, 1, 20] [.code (cc 35 2), .code (cc 35 3)] [] [t0, t1, t20] h
noncomputable def A35_1 (Q : Value → AH → Prop) (t0 t1 t5 t11 t12 t20 : Value) (h : AH) : Prop := Pt Pr K 35 none (retV Pr 35 Q) 31 [0, 1, 5, 11, 12, 20] [.code (cc 35 872), .code (cc 35 873), .inLoop (cc 35 436), .inBlock 0, .code (cc 35 55), .inScope (cc 35 6)] [] [t0, t1, t5, t11, t12, t20] h
noncomputable def A35_2 (Q : Value → AH → Prop) (t0 t1 t5 t11 t12 t20 : Value) (h : AH) : Prop := Pt Pr K 35 none (retV Pr 35 Q) 31 [0, 1, 5, 11, 12, 20] [.code (cc 35 13976), .code (cc 35 13977), .inBlock 1, .code (cc 35 3495), .inLoop (cc 35 436), .inBlock 0, .code (cc 35 55), .inScope (cc 35 6)] [] [t0, t1, t5, t11, t12, t20] h
noncomputable def A35_3 (Q : Value → AH → Prop) (t0 t1 t5 t6 t11 t12 t20 : Value) (h : AH) : Prop := Pt Pr K 35 none (retV Pr 35 Q) 31 [0, 1, 5, 6, 11, 12, 20] [.code (cc 35 3495), .inLoop (cc 35 436), .inBlock 0, .code (cc 35 55), .inScope (cc 35 6)] [] [t0, t1, t5, t6, t11, t12, t20] h
noncomputable def A35_4 (Q : Value → AH → Prop) (t0 t1 t5 t6 t7 t11 t12 : Value) (h : AH) : Prop := Pt Pr K 35 none (retV Pr 35 Q) 31 [0, 1, 5, 6, 7, 11, 12] [.code (cc 35 447276), .code (cc 35 447277), .code (cc 35 223639), .inBlock 2, .inBlock 1, .code (cc 35 3495), .inLoop (cc 35 436), .inBlock 0, .code (cc 35 55), .inScope (cc 35 6)] [] [t0, t1, t5, t6, t7, t11, t12] h
noncomputable def A35_5 (Q : Value → AH → Prop) (t0 t1 t5 t6 t11 t12 t20 : Value) (h : AH) : Prop := Pt Pr K 35 none (retV Pr 35 Q) 31 [0, 1, 5, 6, 11, 12, 20] [.code (cc 35 223639), .inBlock 2, .inBlock 1, .code (cc 35 3495), .inLoop (cc 35 436), .inBlock 0, .code (cc 35 55), .inScope (cc 35 6)] [] [t0, t1, t5, t6, t11, t12, t20] h
noncomputable def A35_6 (Q : Value → AH → Prop) (t0 t1 t5 t6 t11 t12 : Value) (h : AH) : Prop := Pt Pr K 35 none (retV Pr 35 Q) 31 [0, 1, 5, 6, 11, 12] [.code (cc 35 894555), .code (cc 35 223639), .inBlock 2, .inBlock 1, .code (cc 35 3495), .inLoop (cc 35 436), .inBlock 0, .code (cc 35 55), .inScope (cc 35 6)] [] [t0, t1, t5, t6, t11, t12] h
noncomputable def A35_7 (Q : Value → AH → Prop) (t6 : Value) (h : AH) : Prop := Pt Pr K 35 none (retV Pr 35 Q) 31 [6] [.code (cc 35 894556), .code (cc 35 894557), .inBlock 2, .inBlock 1, .code (cc 35 3495), .inLoop (cc 35 436), .inBlock 0, .code (cc 35 55), .inScope (cc 35 6)] [] [t6] h
theorem b35_0 {h : AH} {Q : Value → AH → Prop} {t0 t1 t20 : Value} (H :
 thn (nilV t0) fun v0 =>
 thn (padd 1 v0) fun v1 =>
 thn (ldN h 4 v1) fun v2 =>
 A35_1 Q t0 t1 (I (-1)) v2 (I 0) t20 h
) : A35_0 Q t0 t1 t20 h := by intro e he; cases he; exact bF L35 (by kernel_rfl) H
theorem b35_1 {h : AH} {Q : Value → AH → Prop} {t0 t1 t5 t11 t12 t20 : Value} (H :
 thn (biI .lss t12 (I 4)) fun v0 =>
 Br v0 (
 A35_2 Q t0 t1 t5 t11 t12 t20 h) (
 Q t5 h)
) : A35_1 Q t0 t1 t5 t11 t12 t20 h := by intro e he; cases he; exact bF L35 (by kernel_rfl) H
theorem b35_2 {h : AH} {Q : Value → AH → Prop} {t0 t1 t5 t11 t12 t20 : Value} (H :
 thn (at1 4 1 t11 t12) fun v0 =>
 thn (biI .eql t12 t1) fun v1 =>
 Br v1 (
 A35_3 Q t0 t1 t5 t12 t11 t12 t20 h) (
 A35_4 Q t0 t1 t5 t12 v0 t11 t12 h)
) : A35_2 Q t0 t1 t5 t11 t12 t20 h := by intro e he; cases he; exact bF L35 (by kernel_rfl) H
theorem b35_3 {h : AH} {Q : Value → AH → Prop} {t0 t1 t5 t6 t11 t12 t20 : Value} (H :
 thn (biI .add t12 (I 1)) fun v0 =>
 A35_1 Q t0 t1 t5 t11 v0 t20 h
) : A35_3 Q t0 t1 t5 t6 t11 t12 t20 h := by intro e he; cases he; exact bF L35 (by kernel_rfl) H
theorem b35_4 {h : AH} {Q : Value → AH → Prop} {t0 t1 t5 t6 t7 t11 t12 : Value} (H :
 Br t7 (
 A35_5 Q t0 t1 t5 t6 t11 t12 t7 h) (
 A35_6 Q t0 t1 t5 t6 t11 t12 h)
) : A35_4 Q t0 t1 t5 t6 t7 t11 t12 h := by intro e he; cases he; exact bF L35 (by kernel_rfl) H
theorem b35_5 {h : AH} {Q : Value → AH → Prop} {t0 t1 t5 t6 t11 t12 t20 : Value} (H :
 Br t20 (
 A35_7 Q t6 h) (
 A35_3 Q t0 t1 t5 t6 t11 t12 t20 h)
) : A35_5 Q t0 t1 t5 t6 t11 t12 t20 h := by intro e he; cases he; exact bF L35 (by kernel_rfl) H
theorem b35_6 {h : AH} {Q : Value → AH → Prop} {t0 t1 t5 t6 t11 t12 : Value} (H :
 thn (nilV t0) fun v0 =>
 thn (padd 0 v0) fun v1 =>
 thn (ld1 h v1) fun v2 =>
 thn (biI .eql t6 v2) fun v3 =>
 Br v3 (
 A35_7 Q t6 h) (
 A35_3 Q t0 t1 t5 t6 t11 t12 v3 h)
) : A35_6 Q t0 t1 t5 t6 t11 t12 h := by intro e he; cases he; exact bF L35 (by kernel_rfl) H
theorem b35_7 {h : AH} {Q : Value → AH → Prop} {t6 : Value} (H :
 Q t6 h
) : A35_7 Q t6 h := by intro e he; cases he; exact bF L35 (by kernel_rfl) H
theorem c35 {h : AH} {Q : Value → AH → Prop} {a0 a1 : Value} (H : A35_0 Q a0 a1 undef h) : Cl Pr K 35 [a0, a1] h Q :=
  ok_enter (by kernel_rfl) (by kernel_rfl) (Eq.mp (by kernel_rfl) (H (fun i => ([a0, a1] : List Value).getD i undef) rfl))

/-! ### 36 (*donjon/home.row).probe: params 4, captured 0, results [tmp 8] -/
noncomputable def L36 : List (Option Nat × List Nat) := [(some 0, [0, 1, 2, 3, 12]), (some 3, [4, 5, 6, 9, 12])]
noncomputable def A36_0 (ds : List Nat) (Q : Value → AH → Prop) (t0 t1 t2 t3 t12 : Value) (h : AH) : Prop := Pt Pr K 36 none (retV Pr 36 Q) 26 [0, 1, 2, 3, 12] [.code (cc 36 2), .code (cc 36 3)] ds [t0, t1, t2, t3, t12] h
noncomputable def A36_1 (l : Nat) (Q : Value → AH → Prop) (t4 t5 t6 t9 t12 : Value) (h : AH) : Prop := Pt Pr K 36 (some l) (roundOut l Q) 26 [4, 5, 6, 9, 12] [.code (cc 36 116), .beginRound, .code (cc 36 117)] [] [t4, t5, t6, t9, t12] h
theorem b36_0 {h : AH} {Q : Value → AH → Prop} {ds : List Nat} {t0 t1 t2 t3 t12 : Value} (H :
 thn (blkOf 74 t0) fun b1 =>
 alc h b1 fun p2 h0 =>
 thn (blkOf 3 t1) fun b4 =>
 alc h0 b4 fun p5 h3 =>
 thn (blkOf 3 t2) fun b7 =>
 alc h3 b7 fun p8 h6 =>
 alc h6 (.cells [(.slice none 0 0)] 33 (0, 0) true) fun p10 h9 =>
 alc h9 (.marks true) fun d12 h11 =>
 ∀ e18 : Nat → Value, List.map e18 [4, 5, 6, 9, 12] = [(pt p2 0 0), (pt p5 0 0), (pt p8 0 0), (pt p10 0 0), t12] →
 alc h11 (lp Pr 36 (dcd 58) 26 e18 d12 .ready none) fun l13 h14 =>
 OkR Pr K t3 l13 h14 fun v15 h16 =>
 thn (endV h16 l13) fun r17 => (fun x20 h21 =>
 EndX x20 (
 thn (ld1 h21 (pt p10 0 0)) fun v22 =>
 thn (closeMarks (d12 :: ds) h21) fun h23 =>
 Q v22 h23) (
 thn (closeMarks (d12 :: ds) h21) fun h22 =>
 Q (.slice none 0 0) h22) []) r17.1 r17.2
) : A36_0 ds Q t0 t1 t2 t3 t12 h := by intro e he; cases he; exact bD L36 (by kernel_rfl) H
theorem b36_1 {h : AH} {Q : Value → AH → Prop} {l : Nat} {t4 t5 t6 t9 t12 : Value} (H :
 thn (beginV h l) fun h0 =>
 thn (ld1 h0 t4) fun v1 =>
 thn (nilV v1) fun v2 =>
 thn (padd 17 v2) fun v3 =>
 thn (idxA 4 1 v3 t12) fun v4 =>
 thn (stV h0 1 v4 (.bool true)) fun h5 =>
 thn (ld1 h5 t9) fun v6 =>
 thn (ld1 h5 t5) fun v7 =>
 thn (ld1 h5 t6) fun v8 =>
 thn (fillL [(I 0), (I 0), (I 0), (I 0), (I 0), (I 0), (I 0), (.bool false), (I 0)] [(0, 1, (I 11)), (1, 1, t12), (2, 1, v7), (4, 1, v8)]) fun c9 =>
 thn (fillL [(I 0), (I 0), (I 0), (I 0), (I 0), (I 0), (I 0), (.bool false), (I 0)] [(0, 9, (.agg ⟨c9⟩))]) fun l11 =>
 alcS h5 9 38 l11 1 1 fun s12 h10 =>
 thn (appV 9 72 38 h10 v6 s12) fun r13 => (fun v14 h15 =>
 thn (stV h15 1 t9 v14) fun h16 =>
 thn (setLoop h16 l .ready (some none)) fun h17 =>
 Q (.bool true) h17) r13.1 r13.2
) : A36_1 l Q t4 t5 t6 t9 t12 h := by intro e he; cases he; exact bR L36 (by kernel_rfl) H
theorem c36 {h : AH} {Q : Value → AH → Prop} {a0 a1 a2 a3 : Value} (H : A36_0 [] Q a0 a1 a2 a3 undef h) : Cl Pr K 36 [a0, a1, a2, a3] h Q :=
  ok_enter (by kernel_rfl) (by kernel_rfl) (Eq.mp (by kernel_rfl) (H (fun i => ([a0, a1, a2, a3] : List Value).getD i undef) rfl))
theorem r36_0 {h : AH} {Q : Value → AH → Prop} {l d : Nat} {e : Nat → Value} {st : LoopState} {pd : Option Code} {t4 t5 t6 t9 t12 : Value} {a0 : Value} (hg : h.get l = some (lp Pr 36 (dcd 58) 26 e d st pd)) (he : List.map e [4, 5, 6, 9, 12] = [t4, t5, t6, t9, t12]) (H : A36_1 l Q t4 t5 t6 t9 a0 h) : OkF Pr K (.func (.yield l) #[] #[]) [a0] h Q := by
  cases he; refine okF_round ?_; exact enter_lp (lv := [4, 5, 6, 9, 12]) (vs := [e 4, e 5, e 6, e 9, a0]) hg (by kernel_rfl) (by kernel_rfl) (Eq.mp (by kernel_rfl) H)

/-! ### 37 (*donjon/home.row).holders: params 2, captured 0, results [tmp 4] -/
noncomputable def L37 : List (Option Nat × List Nat) := [(some 0, [0, 1])]
noncomputable def A37_0 (Q : Value → AH → Prop) (t0 t1 : Value) (h : AH) : Prop := Pt Pr K 37 none (retV Pr 37 Q) 6 [0, 1] [.code (cc 37 2), .code (cc 37 3)] [] [t0, t1] h
theorem b37_0 {h : AH} {Q : Value → AH → Prop} {t0 t1 : Value} (H :
 thn (blkOf 74 t0) fun b1 =>
 alc h b1 fun p2 h0 =>
 thn (blkOf 3 t1) fun b4 =>
 alc h0 b4 fun p5 h3 =>
 Q (.func (.func 50) #[] #[(pt p2 0 0), (pt p5 0 0)]) h3
) : A37_0 Q t0 t1 h := by intro e he; cases he; exact bF L37 (by kernel_rfl) H
theorem c37 {h : AH} {Q : Value → AH → Prop} {a0 a1 : Value} (H : A37_0 Q a0 a1 h) : Cl Pr K 37 [a0, a1] h Q :=
  ok_enter (by kernel_rfl) (by kernel_rfl) (Eq.mp (by kernel_rfl) (H (fun i => ([a0, a1] : List Value).getD i undef) rfl))

/-! ### 38 (*donjon/bank.Memory).find: params 2, captured 0, results [tmp 4, tmp 5, tmp 6] -/
noncomputable def L38 : List (Option Nat × List Nat) := [(some 0, [0, 1]), (some 3, [0, 1])]
noncomputable def A38_0 (Q : Value → AH → Prop) (t0 t1 : Value) (h : AH) : Prop := Pt Pr K 38 none (retV Pr 38 Q) 36 [0, 1] [.code (cc 38 2), .code (cc 38 3)] [] [t0, t1] h
noncomputable def A38_1 (Q : Value → AH → Prop) (t0 t1 : Value) (h : AH) : Prop := Pt Pr K 38 none (retV Pr 38 Q) 36 [0, 1] [.code (cc 38 14), .code (cc 38 15)] [] [t0, t1] h
theorem b38_0 {h : AH} {Q : Value → AH → Prop} {t0 t1 : Value} (H :
 thn (biP .eql t0 (.pointer none)) fun v0 =>
 Br v0 (
 Q (.tuple ⟨[(.pointer none), (I 0), (I 2)]⟩) h) (
 A38_1 Q t0 t1 h)
) : A38_0 Q t0 t1 h := by intro e he; cases he; exact bF L38 (by kernel_rfl) H
theorem b38_1 {h : AH} {Q : Value → AH → Prop} {t0 t1 : Value} (H :
 thn (nilV t0) fun v0 =>
 thn (padd 0 v0) fun v1 =>
 thn (ldN h 7 v1) fun v2 =>
 Cl Pr K 51 [v2, t1] h fun v3 h3 => -- donjon/place.Bank
 thn (extV 0 v3) fun v4 =>
 thn (extV 1 v3) fun v5 =>
 thn (biI .neq v5 (I 0)) fun v6 =>
 Br v6 (
 Q (.tuple ⟨[(.pointer none), (I 0), v5]⟩) h3) (
 resv h3 16 fun r8 h7 =>
 thn (nilV t0) fun v9 =>
 thn (padd 7 v9) fun v10 =>
 thn (ld1 h7 v10) fun v11 =>
 thn (idxS 3 v11 v4) fun v12 =>
 thn (nilV t0) fun v13 =>
 thn (padd 0 v13) fun v14 =>
 thn (padd 6 v14) fun v15 =>
 thn (ld1 h7 v15) fun v16 =>
 thn (biI .quo t1 v16) fun v17 =>
 Q (.tuple ⟨[v12, v17, (I 0)]⟩) h7)
) : A38_1 Q t0 t1 h := by intro e he; cases he; exact bF L38 (by kernel_rfl) H
theorem c38 {h : AH} {Q : Value → AH → Prop} {a0 a1 : Value} (H : A38_0 Q a0 a1 h) : Cl Pr K 38 [a0, a1] h Q :=
  ok_enter (by kernel_rfl) (by kernel_rfl) (Eq.mp (by kernel_rfl) (H (fun i => ([a0, a1] : List Value).getD i undef) rfl))

/-! ### 41 (donjon/donjonlaw12.Rule).May: params 3, captured 0, results [tmp 6, tmp 7] -/
noncomputable def L41 : List (Option Nat × List Nat) := [(some 0, [0, 1, 2])]
noncomputable def A41_0 (Q : Value → AH → Prop) (t0 t1 t2 : Value) (h : AH) : Prop := Pt Pr K 41 none (retV Pr 41 Q) 37 [0, 1, 2] [.code (cc 41 2), .code (cc 41 3)] [] [t0, t1, t2] h
theorem b41_0 {h : AH} {Q : Value → AH → Prop} {t0 t1 t2 : Value} (H :
 thn (blkOf 24 t0) fun b1 =>
 alc h b1 fun p2 h0 =>
 resv h0 31 fun r4 h3 =>
 thn (biI .rem t2 (I 5)) fun v5 =>
 thn (biI .add v5 (I 5)) fun v6 =>
 thn (biI .rem v6 (I 5)) fun v7 =>
 thn (biI .geq t1 (I 0)) fun v8 =>
 Br v8 (
 thn (biI .lss t1 (I 5)) fun v9 =>
 Br v9 (
 thn (biI .geq t2 (I 0)) fun v10 =>
 Br v10 (
 thn (biI .lss t2 (I 12)) fun v11 =>
 Br v11 (
 thn (padd 0 (pt p2 0 0)) fun v12 =>
 thn (ld1 h3 v12) fun v13 =>
 thn (biI .mul (I 12) t1) fun v14 =>
 thn (biI .add v14 t2) fun v15 =>
 thn (biI .shr v13 v15) fun v16 =>
 thn (biI .rem v16 (I 2)) fun v17 =>
 thn (biI .eql v17 (I 1)) fun v18 =>
 Q (.tuple ⟨[v7, v18]⟩) h3) (
 Q (.tuple ⟨[v7, (.bool false)]⟩) h3)) (
 Q (.tuple ⟨[v7, (.bool false)]⟩) h3)) (
 Q (.tuple ⟨[v7, (.bool false)]⟩) h3)) (
 Q (.tuple ⟨[v7, (.bool false)]⟩) h3)
) : A41_0 Q t0 t1 t2 h := by intro e he; cases he; exact bF L41 (by kernel_rfl) H
theorem c41 {h : AH} {Q : Value → AH → Prop} {a0 a1 a2 : Value} (H : A41_0 Q a0 a1 a2 h) : Cl Pr K 41 [a0, a1, a2] h Q :=
  ok_enter (by kernel_rfl) (by kernel_rfl) (Eq.mp (by kernel_rfl) (H (fun i => ([a0, a1, a2] : List Value).getD i undef) rfl))

/-! ### 43 (*donjon/home.Home).Ready: params 1, captured 0, results [tmp 2] -/
noncomputable def L43 : List (Option Nat × List Nat) := [(some 0, [0, 7]), (some 3, [3, 7])]
noncomputable def A43_0 (ds : List Nat) (Q : Value → AH → Prop) (t0 t7 : Value) (h : AH) : Prop := Pt Pr K 43 none (retV Pr 43 Q) 14 [0, 7] [.code (cc 43 2), .code (cc 43 3)] ds [t0, t7] h
noncomputable def A43_1 (l : Nat) (Q : Value → AH → Prop) (t3 t7 : Value) (h : AH) : Prop := Pt Pr K 43 (some l) (roundOut l Q) 14 [3, 7] [.code (cc 43 116), .beginRound, .code (cc 43 117)] [] [t3, t7] h
theorem b43_0 {h : AH} {Q : Value → AH → Prop} {ds : List Nat} {t0 t7 : Value} (H :
 alc h (.cells [(.slice none 0 0)] 47 (0, 0) true) fun p1 h0 =>
 Cl Pr K 58 [t0] h0 fun v2 h2 => -- (*donjon/home.Home).open
 alc h2 (.marks true) fun d4 h3 =>
 ∀ e10 : Nat → Value, List.map e10 [3, 7] = [(pt p1 0 0), t7] →
 alc h3 (lp Pr 43 (dcd 58) 14 e10 d4 .ready none) fun l5 h6 =>
 OkR Pr K v2 l5 h6 fun v7 h8 =>
 thn (endV h8 l5) fun r9 => (fun x12 h13 =>
 EndX x12 (
 thn (ld1 h13 (pt p1 0 0)) fun v14 =>
 Cl Pr K 49 [v14] h13 fun v15 h15 => -- slices.Values[[]int,int]
 thn (closeMarks (d4 :: ds) h15) fun h16 =>
 Q v15 h16) (
 thn (closeMarks (d4 :: ds) h13) fun h14 =>
 Q .nilFunc h14) []) r9.1 r9.2
) : A43_0 ds Q t0 t7 h := by intro e he; cases he; exact bD L43 (by kernel_rfl) H
theorem b43_1 {h : AH} {Q : Value → AH → Prop} {l : Nat} {t3 t7 : Value} (H :
 thn (beginV h l) fun h0 =>
 thn (ld1 h0 t3) fun v1 =>
 thn (fillL [(I 0)] [(0, 1, t7)]) fun l3 =>
 alcS h0 1 3 l3 1 1 fun s4 h2 =>
 thn (appV 1 8 3 h2 v1 s4) fun r5 => (fun v6 h7 =>
 thn (stV h7 1 t3 v6) fun h8 =>
 thn (setLoop h8 l .ready (some none)) fun h9 =>
 Q (.bool true) h9) r5.1 r5.2
) : A43_1 l Q t3 t7 h := by intro e he; cases he; exact bR L43 (by kernel_rfl) H
theorem c43 {h : AH} {Q : Value → AH → Prop} {a0 : Value} (H : A43_0 [] Q a0 undef h) : Cl Pr K 43 [a0] h Q :=
  ok_enter (by kernel_rfl) (by kernel_rfl) (Eq.mp (by kernel_rfl) (H (fun i => ([a0] : List Value).getD i undef) rfl))
theorem r43_0 {h : AH} {Q : Value → AH → Prop} {l d : Nat} {e : Nat → Value} {st : LoopState} {pd : Option Code} {t3 t7 : Value} {a0 : Value} (hg : h.get l = some (lp Pr 43 (dcd 58) 14 e d st pd)) (he : List.map e [3, 7] = [t3, t7]) (H : A43_1 l Q t3 a0 h) : OkF Pr K (.func (.yield l) #[] #[]) [a0] h Q := by
  cases he; refine okF_round ?_; exact enter_lp (lv := [3, 7]) (vs := [e 3, a0]) hg (by kernel_rfl) (by kernel_rfl) (Eq.mp (by kernel_rfl) H)

/-! ### 46 donjon/moesi.Valid: params 1, captured 0, results [tmp 2] -/
noncomputable def L46 : List (Option Nat × List Nat) := [(some 0, [0])]
noncomputable def A46_0 (Q : Value → AH → Prop) (t0 : Value) (h : AH) : Prop := Pt Pr K 46 none (retV Pr 46 Q) 9 [0] [.code (cc 46 2), .code (cc 46 3)] [] [t0] h
theorem b46_0 {h : AH} {Q : Value → AH → Prop} {t0 : Value} (H :
 Cl Pr K 59 [t0] h fun v0 h0 => -- donjon/moesi.is
 Br v0 (
 thn (biI .neq t0 (I 0)) fun v1 =>
 Q v1 h0) (
 Q (.bool false) h0)
) : A46_0 Q t0 h := by intro e he; cases he; exact bF L46 (by kernel_rfl) H
theorem c46 {h : AH} {Q : Value → AH → Prop} {a0 : Value} (H : A46_0 Q a0 h) : Cl Pr K 46 [a0] h Q :=
  ok_enter (by kernel_rfl) (by kernel_rfl) (Eq.mp (by kernel_rfl) (H (fun i => ([a0] : List Value).getD i undef) rfl))

/-! ### 47 (*donjon/home.Home).grant: params 2, captured 0, results [tmp 4] -/
noncomputable def L47 : List (Option Nat × List Nat) := [(some 0, [0, 1]), (some 5, [0, 1, 5, 6, 7]), (some 8, [5, 6, 7]), (some 9, [5, 6, 7]), (some 12, [5, 6, 7]), (some 13, [5, 6, 7]), (some 6, [5, 6, 7])]
noncomputable def A47_0 (Q : Value → AH → Prop) (t0 t1 : Value) (h : AH) : Prop := Pt Pr K 47 none (retV Pr 47 Q) 87 [0, 1] [.code (cc 47 2), .code (cc 47 3)] [] [t0, t1] h
noncomputable def A47_1 (Q : Value → AH → Prop) (t0 t1 t5 t6 t7 : Value) (h : AH) : Prop := Pt Pr K 47 none (retV Pr 47 Q) 87 [0, 1, 5, 6, 7] [.code (cc 47 250), .code (cc 47 63)] [] [t0, t1, t5, t6, t7] h
noncomputable def A47_2 (Q : Value → AH → Prop) (t5 t6 t7 : Value) (h : AH) : Prop := Pt Pr K 47 none (retV Pr 47 Q) 87 [5, 6, 7] [.code (cc 47 504), .code (cc 47 505), .inBlock 0, .code (cc 47 127)] [] [t5, t6, t7] h
noncomputable def A47_3 (Q : Value → AH → Prop) (t5 t6 t7 : Value) (h : AH) : Prop := Pt Pr K 47 none (retV Pr 47 Q) 87 [5, 6, 7] [.code (cc 47 2020), .code (cc 47 2021), .inBlock 0, .code (cc 47 127)] [] [t5, t6, t7] h
noncomputable def A47_4 (Q : Value → AH → Prop) (t5 t6 t7 : Value) (h : AH) : Prop := Pt Pr K 47 none (retV Pr 47 Q) 87 [5, 6, 7] [.code (cc 47 2022), .code (cc 47 2023), .inBlock 0, .code (cc 47 127)] [] [t5, t6, t7] h
noncomputable def A47_5 (Q : Value → AH → Prop) (t5 t6 t7 : Value) (h : AH) : Prop := Pt Pr K 47 none (retV Pr 47 Q) 87 [5, 6, 7] [.code (cc 47 8092), .code (cc 47 8093), .inBlock 0, .code (cc 47 127)] [] [t5, t6, t7] h
noncomputable def A47_6 (Q : Value → AH → Prop) (t5 t6 t7 : Value) (h : AH) : Prop := Pt Pr K 47 none (retV Pr 47 Q) 87 [5, 6, 7] [.code (cc 47 8094), .code (cc 47 8095), .inBlock 0, .code (cc 47 127)] [] [t5, t6, t7] h
theorem b47_0 {h : AH} {Q : Value → AH → Prop} {t0 t1 : Value} (H :
 thn (nilV t0) fun v0 =>
 thn (padd 8 v0) fun v1 =>
 thn (ld1 h v1) fun v2 =>
 thn (idxS 25 v2 t1) fun v3 =>
 thn (nilV v3) fun v4 =>
 thn (padd 7 v4) fun v5 =>
 thn (padd 1 v5) fun v6 =>
 thn (ld1 h v6) fun v7 =>
 resv h 13 fun r9 h8 =>
 thn (nilV v3) fun v10 =>
 thn (padd 16 v10) fun v11 =>
 thn (ld1 h8 v11) fun v12 =>
 thn (nilV v3) fun v13 =>
 thn (padd 23 v13) fun v14 =>
 thn (ldN h8 2 v14) fun v15 =>
 thn (fillL [(I 0), (I 0), (I 0), (I 0), (I 0), (I 0), (I 0), (.bool false), (I 0)] [(0, 1, (I 8)), (1, 1, v7), (2, 1, t1), (3, 1, v12), (5, 2, v15)]) fun c16 =>
 alcAt h8 (r9 + 11) (.cells [(I 0), (I 0), (I 0), (I 0), (I 0), (I 0), (I 0), (.bool false), (I 0)] 38 (0, 0) true) fun p18 h17 =>
 thn (stV h17 9 (pt p18 0 0) (.agg ⟨c16⟩)) fun h19 =>
 thn (nilV v3) fun v20 =>
 thn (padd 22 v20) fun v21 =>
 thn (ld1 h19 v21) fun v22 =>
 thn (unV .not v22) fun v23 =>
 Br v23 (
 A47_1 Q t0 t1 v3 v7 (pt p18 0 0) h19) (
 A47_2 Q v3 v7 (pt p18 0 0) h19)
) : A47_0 Q t0 t1 h := by intro e he; cases he; exact bF L47 (by kernel_rfl) H
theorem b47_1 {h : AH} {Q : Value → AH → Prop} {t0 t1 t5 t6 t7 : Value} (H :
 thn (nilV t0) fun v0 =>
 thn (padd 0 v0) fun v1 =>
 thn (ld1 h v1) fun v2 =>
 Cl Pr K 19 [v2, t1] h fun v3 h3 => -- (*donjon/bank.Memory).Read
 thn (extV 0 v3) fun v4 =>
 thn (extV 1 v3) fun v5 =>
 thn (padd 5 t7) fun v6 =>
 thn (stV h3 2 v6 v4) fun h7 =>
 thn (nilV t5) fun v8 =>
 thn (padd 7 v8) fun v9 =>
 thn (padd 0 v9) fun v10 =>
 thn (ld1 h7 v10) fun v11 =>
 thn (biI .eql v11 (I 2)) fun v12 =>
 Br v12 (
 A47_3 Q t5 t6 t7 h7) (
 A47_4 Q t5 t6 t7 h7)
) : A47_1 Q t0 t1 t5 t6 t7 h := by intro e he; cases he; exact bF L47 (by kernel_rfl) H
theorem b47_2 {h : AH} {Q : Value → AH → Prop} {t5 t6 t7 : Value} (H :
 thn (nilV t5) fun v0 =>
 thn (padd 7 v0) fun v1 =>
 thn (padd 0 v1) fun v2 =>
 thn (ld1 h v2) fun v3 =>
 thn (biI .eql v3 (I 2)) fun v4 =>
 Br v4 (
 A47_3 Q t5 t6 t7 h) (
 A47_4 Q t5 t6 t7 h)
) : A47_2 Q t5 t6 t7 h := by intro e he; cases he; exact bF L47 (by kernel_rfl) H
theorem b47_3 {h : AH} {Q : Value → AH → Prop} {t5 t6 t7 : Value} (H :
 thn (padd 4 t7) fun v0 =>
 thn (stV h 1 v0 (I 4)) fun h1 =>
 thn (nilV t5) fun v2 =>
 thn (padd 0 v2) fun v3 =>
 thn (stV h1 1 v3 t6) fun h4 =>
 thn (fillL [(.bool false), (.bool false), (.bool false), (.bool false)] []) fun c5 =>
 thn (nilV t5) fun v6 =>
 thn (padd 1 v6) fun v7 =>
 thn (stV h4 4 v7 (.agg ⟨c5⟩)) fun h8 =>
 thn (nilV t5) fun v9 =>
 thn (padd 21 v9) fun v10 =>
 thn (stV h8 1 v10 (.bool true)) fun h11 =>
 thn (ldN h11 9 t7) fun v12 =>
 thn (fillL [(I 0), (I 0), (I 0), (I 0), (I 0), (I 0), (I 0), (.bool false), (I 0)] [(0, 9, v12)]) fun l14 =>
 alcS h11 9 38 l14 1 1 fun s15 h13 =>
 Q s15 h13
) : A47_3 Q t5 t6 t7 h := by intro e he; cases he; exact bF L47 (by kernel_rfl) H
theorem b47_4 {h : AH} {Q : Value → AH → Prop} {t5 t6 t7 : Value} (H :
 Cl Pr K 35 [t5, t6] h fun v0 h0 => -- (*donjon/home.row).first
 thn (biI .eql v0 (I (-1))) fun v1 =>
 Br v1 (
 A47_5 Q t5 t6 t7 h0) (
 A47_6 Q t5 t6 t7 h0)
) : A47_4 Q t5 t6 t7 h := by intro e he; cases he; exact bF L47 (by kernel_rfl) H
theorem b47_5 {h : AH} {Q : Value → AH → Prop} {t5 t6 t7 : Value} (H :
 thn (padd 4 t7) fun v0 =>
 thn (stV h 1 v0 (I 2)) fun h1 =>
 thn (nilV t5) fun v2 =>
 thn (padd 0 v2) fun v3 =>
 thn (stV h1 1 v3 t6) fun h4 =>
 thn (nilV t5) fun v5 =>
 thn (padd 1 v5) fun v6 =>
 thn (idxA 4 1 v6 t6) fun v7 =>
 thn (stV h4 1 v7 (.bool false)) fun h8 =>
 thn (nilV t5) fun v9 =>
 thn (padd 21 v9) fun v10 =>
 thn (stV h8 1 v10 (.bool true)) fun h11 =>
 thn (ldN h11 9 t7) fun v12 =>
 thn (fillL [(I 0), (I 0), (I 0), (I 0), (I 0), (I 0), (I 0), (.bool false), (I 0)] [(0, 9, v12)]) fun l14 =>
 alcS h11 9 38 l14 1 1 fun s15 h13 =>
 Q s15 h13
) : A47_5 Q t5 t6 t7 h := by intro e he; cases he; exact bF L47 (by kernel_rfl) H
theorem b47_6 {h : AH} {Q : Value → AH → Prop} {t5 t6 t7 : Value} (H :
 thn (padd 4 t7) fun v0 =>
 thn (stV h 1 v0 (I 1)) fun h1 =>
 thn (nilV t5) fun v2 =>
 thn (padd 1 v2) fun v3 =>
 thn (idxA 4 1 v3 t6) fun v4 =>
 thn (stV h1 1 v4 (.bool true)) fun h5 =>
 thn (nilV t5) fun v6 =>
 thn (padd 21 v6) fun v7 =>
 thn (stV h5 1 v7 (.bool true)) fun h8 =>
 thn (ldN h8 9 t7) fun v9 =>
 thn (fillL [(I 0), (I 0), (I 0), (I 0), (I 0), (I 0), (I 0), (.bool false), (I 0)] [(0, 9, v9)]) fun l11 =>
 alcS h8 9 38 l11 1 1 fun s12 h10 =>
 Q s12 h10
) : A47_6 Q t5 t6 t7 h := by intro e he; cases he; exact bF L47 (by kernel_rfl) H
theorem c47 {h : AH} {Q : Value → AH → Prop} {a0 a1 : Value} (H : A47_0 Q a0 a1 h) : Cl Pr K 47 [a0, a1] h Q :=
  ok_enter (by kernel_rfl) (by kernel_rfl) (Eq.mp (by kernel_rfl) (H (fun i => ([a0, a1] : List Value).getD i undef) rfl))

/-! ### 49 slices.Values[[]int,int]: params 1, captured 0, results [tmp 2] -/
noncomputable def L49 : List (Option Nat × List Nat) := [(some 0, [0])]
noncomputable def A49_0 (Q : Value → AH → Prop) (t0 : Value) (h : AH) : Prop := Pt Pr K 49 none (retV Pr 49 Q) 4 [0] [.code (cc 49 2), .code (cc 49 3)] [] [t0] h
theorem b49_0 {h : AH} {Q : Value → AH → Prop} {t0 : Value} (H :
 thn (blkOf 47 t0) fun b1 =>
 alc h b1 fun p2 h0 =>
 Q (.func (.func 60) #[] #[(pt p2 0 0)]) h0
) : A49_0 Q t0 h := by intro e he; cases he; exact bF L49 (by kernel_rfl) H
theorem c49 {h : AH} {Q : Value → AH → Prop} {a0 : Value} (H : A49_0 Q a0 h) : Cl Pr K 49 [a0] h Q :=
  ok_enter (by kernel_rfl) (by kernel_rfl) (Eq.mp (by kernel_rfl) (H (fun i => ([a0] : List Value).getD i undef) rfl))

/-! ### 50 (*donjon/home.row).holders$1: params 1, captured 2, results [] -/
noncomputable def L50 : List (Option Nat × List Nat) := [(some 0, [0, 1, 2]), (some 1, [0, 1, 2, 9, 10]), (some 2, [0, 1, 2, 9, 10]), (some 5, [0, 1, 2, 9, 10]), (some 4, [0, 1, 2, 4, 9, 10])]
noncomputable def A50_0 (Q : Value → AH → Prop) (t0 t1 t2 : Value) (h : AH) : Prop := Pt Pr K 50 none (retV Pr 50 Q) 34 [0, 1, 2] [.code (cc 50 2), .code (cc 50 3)] [] [t0, t1, t2] h
noncomputable def A50_1 (Q : Value → AH → Prop) (t0 t1 t2 t9 t10 : Value) (h : AH) : Prop := Pt Pr K 50 none (retV Pr 50 Q) 34 [0, 1, 2, 9, 10] [.code (cc 50 24), .code (cc 50 25), .inLoop (cc 50 12), .inBlock 0] [] [t0, t1, t2, t9, t10] h
noncomputable def A50_2 (Q : Value → AH → Prop) (t0 t1 t2 t9 t10 : Value) (h : AH) : Prop := Pt Pr K 50 none (retV Pr 50 Q) 34 [0, 1, 2, 9, 10] [.code (cc 50 408), .code (cc 50 409), .inBlock 1, .code (cc 50 103), .inLoop (cc 50 12), .inBlock 0] [] [t0, t1, t2, t9, t10] h
noncomputable def A50_3 (Q : Value → AH → Prop) (t0 t1 t2 t9 t10 : Value) (h : AH) : Prop := Pt Pr K 50 none (retV Pr 50 Q) 34 [0, 1, 2, 9, 10] [.code (cc 50 103), .inLoop (cc 50 12), .inBlock 0] [] [t0, t1, t2, t9, t10] h
noncomputable def A50_4 (Q : Value → AH → Prop) (t0 t1 t2 t4 t9 t10 : Value) (h : AH) : Prop := Pt Pr K 50 none (retV Pr 50 Q) 34 [0, 1, 2, 4, 9, 10] [.code (cc 50 1638), .code (cc 50 1639), .inBlock 1, .code (cc 50 103), .inLoop (cc 50 12), .inBlock 0] [] [t0, t1, t2, t4, t9, t10] h
theorem b50_0 {h : AH} {Q : Value → AH → Prop} {t0 t1 t2 : Value} (H :
 thn (ld1 h t1) fun v0 =>
 thn (nilV v0) fun v1 =>
 thn (padd 1 v1) fun v2 =>
 thn (ldN h 4 v2) fun v3 =>
 A50_1 Q t0 t1 t2 v3 (I 0) h
) : A50_0 Q t0 t1 t2 h := by intro e he; cases he; exact bF L50 (by kernel_rfl) H
theorem b50_1 {h : AH} {Q : Value → AH → Prop} {t0 t1 t2 t9 t10 : Value} (H :
 thn (biI .lss t10 (I 4)) fun v0 =>
 Br v0 (
 A50_2 Q t0 t1 t2 t9 t10 h) (
 Q (.tuple ⟨[]⟩) h)
) : A50_1 Q t0 t1 t2 t9 t10 h := by intro e he; cases he; exact bF L50 (by kernel_rfl) H
theorem b50_2 {h : AH} {Q : Value → AH → Prop} {t0 t1 t2 t9 t10 : Value} (H :
 thn (at1 4 1 t9 t10) fun v0 =>
 thn (ld1 h t2) fun v1 =>
 thn (biI .eql t10 v1) fun v2 =>
 Br v2 (
 thn (biI .add t10 (I 1)) fun v3 =>
 A50_1 Q t0 t1 t2 t9 v3 h) (
 thn (unV .not v0) fun v3 =>
 Br v3 (
 thn (ld1 h t1) fun v4 =>
 thn (nilV v4) fun v5 =>
 thn (padd 0 v5) fun v6 =>
 thn (ld1 h v6) fun v7 =>
 thn (biI .neq t10 v7) fun v8 =>
 Br v8 (
 A50_3 Q t0 t1 t2 t9 t10 h) (
 A50_4 Q t0 t1 t2 t10 t9 t10 h)) (
 OkF Pr K t0 [t10] h fun v4 h4 =>
 thn (unV .not v4) fun v5 =>
 Br v5 (
 Q (.tuple ⟨[]⟩) h4) (
 A50_3 Q t0 t1 t2 t9 t10 h4)))
) : A50_2 Q t0 t1 t2 t9 t10 h := by intro e he; cases he; exact bF L50 (by kernel_rfl) H
theorem b50_3 {h : AH} {Q : Value → AH → Prop} {t0 t1 t2 t9 t10 : Value} (H :
 thn (biI .add t10 (I 1)) fun v0 =>
 A50_1 Q t0 t1 t2 t9 v0 h
) : A50_3 Q t0 t1 t2 t9 t10 h := by intro e he; cases he; exact bF L50 (by kernel_rfl) H
theorem b50_4 {h : AH} {Q : Value → AH → Prop} {t0 t1 t2 t4 t9 t10 : Value} (H :
 OkF Pr K t0 [t4] h fun v0 h0 =>
 thn (unV .not v0) fun v1 =>
 Br v1 (
 Q (.tuple ⟨[]⟩) h0) (
 A50_3 Q t0 t1 t2 t9 t10 h0)
) : A50_4 Q t0 t1 t2 t4 t9 t10 h := by intro e he; cases he; exact bF L50 (by kernel_rfl) H
theorem c50 {h : AH} {Q : Value → AH → Prop} {a0 a1 a2 : Value} (H : A50_0 Q a0 a1 a2 h) : Cl Pr K 50 [a0, a1, a2] h Q :=
  ok_enter (by kernel_rfl) (by kernel_rfl) (Eq.mp (by kernel_rfl) (H (fun i => ([a0, a1, a2] : List Value).getD i undef) rfl))

/-! ### 51 donjon/place.Bank: params 2, captured 0, results [tmp 4, tmp 5] -/
noncomputable def L51 : List (Option Nat × List Nat) := [(some 0, [0, 1])]
noncomputable def A51_0 (Q : Value → AH → Prop) (t0 t1 : Value) (h : AH) : Prop := Pt Pr K 51 none (retV Pr 51 Q) 18 [0, 1] [.code (cc 51 2), .code (cc 51 3)] [] [t0, t1] h
theorem b51_0 {h : AH} {Q : Value → AH → Prop} {t0 t1 : Value} (H :
 thn (blkOf 30 t0) fun b1 =>
 alc h b1 fun p2 h0 =>
 thn (biI .lss t1 (I 0)) fun v3 =>
 Br v3 (
 Q (.tuple ⟨[(I 0), (I 10)]⟩) h0) (
 thn (ldN h0 7 (pt p2 0 0)) fun v4 =>
 Cl Pr K 27 [v4] h0 fun v5 h5 => -- donjon/place.Lines
 thn (biI .geq t1 v5) fun v6 =>
 Br v6 (
 Q (.tuple ⟨[(I 0), (I 10)]⟩) h5) (
 thn (padd 6 (pt p2 0 0)) fun v7 =>
 thn (ld1 h5 v7) fun v8 =>
 thn (biI .rem t1 v8) fun v9 =>
 Q (.tuple ⟨[v9, (I 0)]⟩) h5))
) : A51_0 Q t0 t1 h := by intro e he; cases he; exact bF L51 (by kernel_rfl) H
theorem c51 {h : AH} {Q : Value → AH → Prop} {a0 a1 : Value} (H : A51_0 Q a0 a1 h) : Cl Pr K 51 [a0, a1] h Q :=
  ok_enter (by kernel_rfl) (by kernel_rfl) (Eq.mp (by kernel_rfl) (H (fun i => ([a0, a1] : List Value).getD i undef) rfl))

/-! ### 58 (*donjon/home.Home).open: params 1, captured 0, results [tmp 2] -/
noncomputable def L58 : List (Option Nat × List Nat) := [(some 0, [0])]
noncomputable def A58_0 (Q : Value → AH → Prop) (t0 : Value) (h : AH) : Prop := Pt Pr K 58 none (retV Pr 58 Q) 4 [0] [.code (cc 58 2), .code (cc 58 3)] [] [t0] h
theorem b58_0 {h : AH} {Q : Value → AH → Prop} {t0 : Value} (H :
 thn (blkOf 25 t0) fun b1 =>
 alc h b1 fun p2 h0 =>
 Q (.func (.func 61) #[] #[(pt p2 0 0)]) h0
) : A58_0 Q t0 h := by intro e he; cases he; exact bF L58 (by kernel_rfl) H
theorem c58 {h : AH} {Q : Value → AH → Prop} {a0 : Value} (H : A58_0 Q a0 h) : Cl Pr K 58 [a0] h Q :=
  ok_enter (by kernel_rfl) (by kernel_rfl) (Eq.mp (by kernel_rfl) (H (fun i => ([a0] : List Value).getD i undef) rfl))

/-! ### 59 donjon/moesi.is: params 1, captured 0, results [tmp 2] -/
noncomputable def L59 : List (Option Nat × List Nat) := [(some 0, [0])]
noncomputable def A59_0 (Q : Value → AH → Prop) (t0 : Value) (h : AH) : Prop := Pt Pr K 59 none (retV Pr 59 Q) 9 [0] [.code (cc 59 2), .code (cc 59 3)] [] [t0] h
theorem b59_0 {h : AH} {Q : Value → AH → Prop} {t0 : Value} (H :
 thn (biI .geq t0 (I 0)) fun v0 =>
 Br v0 (
 thn (biI .lss t0 (I 5)) fun v1 =>
 Q v1 h) (
 Q (.bool false) h)
) : A59_0 Q t0 h := by intro e he; cases he; exact bF L59 (by kernel_rfl) H
theorem c59 {h : AH} {Q : Value → AH → Prop} {a0 : Value} (H : A59_0 Q a0 h) : Cl Pr K 59 [a0] h Q :=
  ok_enter (by kernel_rfl) (by kernel_rfl) (Eq.mp (by kernel_rfl) (H (fun i => ([a0] : List Value).getD i undef) rfl))

/-! ### 60 slices.Values[[]int,int]$1: params 1, captured 1, results [] -/
noncomputable def L60 : List (Option Nat × List Nat) := [(some 0, [0, 1]), (some 1, [0, 5, 6, 7]), (some 2, [0, 5, 6, 7]), (some 4, [0, 5, 6, 7])]
noncomputable def A60_0 (Q : Value → AH → Prop) (t0 t1 : Value) (h : AH) : Prop := Pt Pr K 60 none (retV Pr 60 Q) 16 [0, 1] [.code (cc 60 2), .code (cc 60 3)] [] [t0, t1] h
noncomputable def A60_1 (Q : Value → AH → Prop) (t0 t5 t6 t7 : Value) (h : AH) : Prop := Pt Pr K 60 none (retV Pr 60 Q) 16 [0, 5, 6, 7] [.code (cc 60 24), .code (cc 60 25), .inLoop (cc 60 12), .inBlock 0] [] [t0, t5, t6, t7] h
noncomputable def A60_2 (Q : Value → AH → Prop) (t0 t5 t6 t7 : Value) (h : AH) : Prop := Pt Pr K 60 none (retV Pr 60 Q) 16 [0, 5, 6, 7] [.code (cc 60 408), .code (cc 60 409), .inBlock 1, .code (cc 60 103), .inLoop (cc 60 12), .inBlock 0] [] [t0, t5, t6, t7] h
noncomputable def A60_3 (Q : Value → AH → Prop) (t0 t5 t6 t7 : Value) (h : AH) : Prop := Pt Pr K 60 none (retV Pr 60 Q) 16 [0, 5, 6, 7] [.code (cc 60 103), .inLoop (cc 60 12), .inBlock 0] [] [t0, t5, t6, t7] h
theorem b60_0 {h : AH} {Q : Value → AH → Prop} {t0 t1 : Value} (H :
 thn (ld1 h t1) fun v0 =>
 thn (lenS v0) fun v1 =>
 A60_1 Q t0 v0 v1 (I 0) h
) : A60_0 Q t0 t1 h := by intro e he; cases he; exact bF L60 (by kernel_rfl) H
theorem b60_1 {h : AH} {Q : Value → AH → Prop} {t0 t5 t6 t7 : Value} (H :
 thn (biI .lss t7 t6) fun v0 =>
 Br v0 (
 A60_2 Q t0 t5 t6 t7 h) (
 Q (.tuple ⟨[]⟩) h)
) : A60_1 Q t0 t5 t6 t7 h := by intro e he; cases he; exact bF L60 (by kernel_rfl) H
theorem b60_2 {h : AH} {Q : Value → AH → Prop} {t0 t5 t6 t7 : Value} (H :
 thn (idxS 1 t5 t7) fun v0 =>
 thn (ld1 h v0) fun v1 =>
 OkF Pr K t0 [v1] h fun v2 h2 =>
 thn (unV .not v2) fun v3 =>
 Br v3 (
 Q (.tuple ⟨[]⟩) h2) (
 A60_3 Q t0 t5 t6 t7 h2)
) : A60_2 Q t0 t5 t6 t7 h := by intro e he; cases he; exact bF L60 (by kernel_rfl) H
theorem b60_3 {h : AH} {Q : Value → AH → Prop} {t0 t5 t6 t7 : Value} (H :
 thn (biI .add t7 (I 1)) fun v0 =>
 A60_1 Q t0 t5 t6 v0 h
) : A60_3 Q t0 t5 t6 t7 h := by intro e he; cases he; exact bF L60 (by kernel_rfl) H
theorem c60 {h : AH} {Q : Value → AH → Prop} {a0 a1 : Value} (H : A60_0 Q a0 a1 h) : Cl Pr K 60 [a0, a1] h Q :=
  ok_enter (by kernel_rfl) (by kernel_rfl) (Eq.mp (by kernel_rfl) (H (fun i => ([a0, a1] : List Value).getD i undef) rfl))

/-! ### 61 (*donjon/home.Home).open$1: params 1, captured 1, results [] -/
noncomputable def L61 : List (Option Nat × List Nat) := [(some 0, [0, 1]), (some 1, [0, 1]), (some 2, [0, 10, 11, 12]), (some 3, [0, 10, 11, 12]), (some 5, [0, 10, 11, 12])]
noncomputable def A61_0 (Q : Value → AH → Prop) (t0 t1 : Value) (h : AH) : Prop := Pt Pr K 61 none (retV Pr 61 Q) 33 [0, 1] [.code (cc 61 4), .code (cc 61 5), .code (cc 61 3)] [] [t0, t1] h
noncomputable def A61_1 (Q : Value → AH → Prop) (t0 t1 : Value) (h : AH) : Prop := Pt Pr K 61 none (retV Pr 61 Q) 33 [0, 1] [.code (cc 61 6), .code (cc 61 7)] [] [t0, t1] h
noncomputable def A61_2 (Q : Value → AH → Prop) (t0 t10 t11 t12 : Value) (h : AH) : Prop := Pt Pr K 61 none (retV Pr 61 Q) 33 [0, 10, 11, 12] [.code (cc 61 56), .code (cc 61 57), .inLoop (cc 61 28), .inBlock 0] [] [t0, t10, t11, t12] h
noncomputable def A61_3 (Q : Value → AH → Prop) (t0 t10 t11 t12 : Value) (h : AH) : Prop := Pt Pr K 61 none (retV Pr 61 Q) 33 [0, 10, 11, 12] [.code (cc 61 920), .code (cc 61 921), .inBlock 1, .code (cc 61 231), .inLoop (cc 61 28), .inBlock 0] [] [t0, t10, t11, t12] h
noncomputable def A61_4 (Q : Value → AH → Prop) (t0 t10 t11 t12 : Value) (h : AH) : Prop := Pt Pr K 61 none (retV Pr 61 Q) 33 [0, 10, 11, 12] [.code (cc 61 231), .inLoop (cc 61 28), .inBlock 0] [] [t0, t10, t11, t12] h
theorem b61_0 {h : AH} {Q : Value → AH → Prop} {t0 t1 : Value} (H :
 thn (ld1 h t1) fun v0 =>
 thn (biP .eql v0 (.pointer none)) fun v1 =>
 Br v1 (
 Q (.tuple ⟨[]⟩) h) (
 A61_1 Q t0 t1 h)
) : A61_0 Q t0 t1 h := by intro e he; cases he; exact bF L61 (by kernel_rfl) H
theorem b61_1 {h : AH} {Q : Value → AH → Prop} {t0 t1 : Value} (H :
 thn (ld1 h t1) fun v0 =>
 thn (nilV v0) fun v1 =>
 thn (padd 8 v1) fun v2 =>
 thn (ld1 h v2) fun v3 =>
 thn (lenS v3) fun v4 =>
 A61_2 Q t0 v3 v4 (I 0) h
) : A61_1 Q t0 t1 h := by intro e he; cases he; exact bF L61 (by kernel_rfl) H
theorem b61_2 {h : AH} {Q : Value → AH → Prop} {t0 t10 t11 t12 : Value} (H :
 thn (biI .lss t12 t11) fun v0 =>
 Br v0 (
 A61_3 Q t0 t10 t11 t12 h) (
 Q (.tuple ⟨[]⟩) h)
) : A61_2 Q t0 t10 t11 t12 h := by intro e he; cases he; exact bF L61 (by kernel_rfl) H
theorem b61_3 {h : AH} {Q : Value → AH → Prop} {t0 t10 t11 t12 : Value} (H :
 thn (idxS 25 t10 t12) fun v0 =>
 thn (ldN h 25 v0) fun v1 =>
 alc h (.cells [(I 0), (.bool false), (.bool false), (.bool false), (.bool false), (.slice none 0 0), (.bool false), (I 0), (I 0), (I 0), (I 0), (I 0), (I 0), (I 0), (.bool false), (I 0), (I 0), (.bool false), (.bool false), (.bool false), (.bool false), (.bool false), (.bool false), (I 0), (I 0)] 73 (0, 0) true) fun p3 h2 =>
 thn (stV h2 25 (pt p3 0 0) v1) fun h4 =>
 thn (padd 6 (pt p3 0 0)) fun v5 =>
 thn (ld1 h4 v5) fun v6 =>
 thn (unV .not v6) fun v7 =>
 Br v7 (
 thn (padd 5 (pt p3 0 0)) fun v8 =>
 thn (ld1 h4 v8) fun v9 =>
 thn (lenS v9) fun v10 =>
 thn (biI .gtr v10 (I 0)) fun v11 =>
 Br v11 (
 OkF Pr K t0 [t12] h4 fun v12 h12 =>
 thn (unV .not v12) fun v13 =>
 Br v13 (
 Q (.tuple ⟨[]⟩) h12) (
 A61_4 Q t0 t10 t11 t12 h12)) (
 thn (biI .add t12 (I 1)) fun v12 =>
 A61_2 Q t0 t10 t11 v12 h4)) (
 thn (biI .add t12 (I 1)) fun v8 =>
 A61_2 Q t0 t10 t11 v8 h4)
) : A61_3 Q t0 t10 t11 t12 h := by intro e he; cases he; exact bF L61 (by kernel_rfl) H
theorem b61_4 {h : AH} {Q : Value → AH → Prop} {t0 t10 t11 t12 : Value} (H :
 thn (biI .add t12 (I 1)) fun v0 =>
 A61_2 Q t0 t10 t11 v0 h
) : A61_4 Q t0 t10 t11 t12 h := by intro e he; cases he; exact bF L61 (by kernel_rfl) H
theorem c61 {h : AH} {Q : Value → AH → Prop} {a0 a1 : Value} (H : A61_0 Q a0 a1 h) : Cl Pr K 61 [a0, a1] h Q :=
  ok_enter (by kernel_rfl) (by kernel_rfl) (Eq.mp (by kernel_rfl) (H (fun i => ([a0, a1] : List Value).getD i undef) rfl))

end Go.Proofs.YtagcnlaofkfpjaaDoor
end
