/- A part of the proof. -/
import Derived.Test.YtagcnlaofkfpjaaDoorB5
import Derived.Test.YtagcnlaofkfpjaaDoorB4
import Derived.KernelRfl
section
namespace Go.Proofs.YtagcnlaofkfpjaaDoor
open Go Go.Ab
set_option maxRecDepth 100000
/-! ### 6 donjon/donjonlaw12.HomePlays: params 2, captured 0, results [tmp 4] -/
noncomputable def L6 : List (Option Nat × List Nat) := [(some 0, [0, 1]), (some 4, [0, 3, 5]), (some 6, [0, 3, 5, 7, 8]), (some 8, [0, 3, 5, 7, 8]), (some 7, [0, 3, 5, 7, 8])]
noncomputable def A6_0 (Q : Value → AH → Prop) (t0 t1 : Value) (h : AH) : Prop := Pt Pr K 6 none (retV Pr 6 Q) 57 [0, 1] [.code (cc 6 2), .code (cc 6 3)] [] [t0, t1] h
noncomputable def A6_1 (Q : Value → AH → Prop) (t0 t3 t5 : Value) (h : AH) : Prop := Pt Pr K 6 none (retV Pr 6 Q) 57 [0, 3, 5] [.code (cc 6 30), .code (cc 6 31)] [] [t0, t3, t5] h
noncomputable def A6_2 (Q : Value → AH → Prop) (t0 t3 t5 t7 t8 : Value) (h : AH) : Prop := Pt Pr K 6 none (retV Pr 6 Q) 57 [0, 3, 5, 7, 8] [.code (cc 6 2000), .code (cc 6 2001), .code (cc 6 1001), .inLoop (cc 6 500), .inBlock 0, .code (cc 6 63)] [] [t0, t3, t5, t7, t8] h
noncomputable def A6_3 (Q : Value → AH → Prop) (t0 t3 t5 t7 t8 : Value) (h : AH) : Prop := Pt Pr K 6 none (retV Pr 6 Q) 57 [0, 3, 5, 7, 8] [.code (cc 6 8008), .code (cc 6 8009), .inBlock 1, .code (cc 6 2003), .inLoop (cc 6 500), .inBlock 0, .code (cc 6 63)] [] [t0, t3, t5, t7, t8] h
noncomputable def A6_4 (Q : Value → AH → Prop) (t0 t3 t5 t7 t8 : Value) (h : AH) : Prop := Pt Pr K 6 none (retV Pr 6 Q) 57 [0, 3, 5, 7, 8] [.code (cc 6 2003), .inLoop (cc 6 500), .inBlock 0, .code (cc 6 63)] [] [t0, t3, t5, t7, t8] h
theorem b6_0 {h : AH} {Q : Value → AH → Prop} {t0 t1 : Value} (H :
 thn (blkOf 24 t1) fun b1 =>
 alc h b1 fun p2 h0 =>
 Cl Pr K 8 [] h0 fun v3 h3 => -- donjon/donjonlaw12.small
 Cl Pr K 7 [v3] h3 fun v4 h4 => -- donjon/home.New
 thn (extV 0 v4) fun v5 =>
 thn (extV 1 v4) fun v6 =>
 thn (biP .eql v5 (.pointer none)) fun v7 =>
 Br v7 (
 thn (biP .neq v5 (.pointer none)) fun v8 =>
 Br v8 (
 thn (biI .eql v6 (I 0)) fun v9 =>
 Br v9 (
 Cl Pr K 9 [] h4 fun v10 h10 => -- donjon/donjonlaw12.awake
 Q v10 h10) (
 Q (.bool false) h4)) (
 Q (.bool false) h4)) (
 thn (biI .neq v6 (I 0)) fun v8 =>
 Br v8 (
 thn (biP .neq v5 (.pointer none)) fun v9 =>
 Br v9 (
 thn (biI .eql v6 (I 0)) fun v10 =>
 Br v10 (
 Cl Pr K 9 [] h4 fun v11 h11 => -- donjon/donjonlaw12.awake
 Q v11 h11) (
 Q (.bool false) h4)) (
 Q (.bool false) h4)) (
 thn (lenS t0) fun v9 =>
 thn (biI .gtr v9 (I 80)) fun v10 =>
 Br v10 (
 thn (biP .neq v5 (.pointer none)) fun v11 =>
 Br v11 (
 thn (biI .eql v6 (I 0)) fun v12 =>
 Br v12 (
 Cl Pr K 9 [] h4 fun v13 h13 => -- donjon/donjonlaw12.awake
 Q v13 h13) (
 Q (.bool false) h4)) (
 Q (.bool false) h4)) (
 A6_1 Q t0 (pt p2 0 0) v5 h4)))
) : A6_0 Q t0 t1 h := by intro e he; cases he; exact bF L6 (by kernel_rfl) H
theorem b6_1 {h : AH} {Q : Value → AH → Prop} {t0 t3 t5 : Value} (H :
 Cl Pr K 22 [(I 3), (I 4)] h fun v0 h0 => -- donjon/donjonref12.New
 A6_2 Q t0 t3 t5 v0 (I 0) h0
) : A6_1 Q t0 t3 t5 h := by intro e he; cases he; exact bF L6 (by kernel_rfl) H
theorem b6_2 {h : AH} {Q : Value → AH → Prop} {t0 t3 t5 t7 t8 : Value} (H :
 thn (lenS t0) fun v0 =>
 thn (biI .lss t8 v0) fun v1 =>
 Br v1 (
 A6_3 Q t0 t3 t5 t7 t8 h) (
 Cl Pr K 9 [] h fun v2 h2 => -- donjon/donjonlaw12.awake
 Q v2 h2)
) : A6_2 Q t0 t3 t5 t7 t8 h := by intro e he; cases he; exact bF L6 (by kernel_rfl) H
theorem b6_3 {h : AH} {Q : Value → AH → Prop} {t0 t3 t5 t7 t8 : Value} (H :
 resv h 15 fun r1 h0 =>
 thn (idxS 11 t0 t8) fun v2 =>
 thn (ldN h0 11 v2) fun v3 =>
 thn (ldN h0 1 t3) fun v4 =>
 Cl Pr K 23 [t5, t7, v3, v4] h0 fun v5 h5 => -- donjon/donjonlaw12.does
 thn (unV .not v5) fun v6 =>
 Br v6 (
 Q (.bool false) h5) (
 Cl Pr K 24 [t5, t7] h5 fun v7 h7 => -- donjon/donjonlaw12.same
 thn (unV .not v7) fun v8 =>
 Br v8 (
 Q (.bool false) h7) (
 A6_4 Q t0 t3 t5 t7 t8 h7))
) : A6_3 Q t0 t3 t5 t7 t8 h := by intro e he; cases he; exact bF L6 (by kernel_rfl) H
theorem b6_4 {h : AH} {Q : Value → AH → Prop} {t0 t3 t5 t7 t8 : Value} (H :
 thn (biI .add t8 (I 1)) fun v0 =>
 A6_2 Q t0 t3 t5 t7 v0 h
) : A6_4 Q t0 t3 t5 t7 t8 h := by intro e he; cases he; exact bF L6 (by kernel_rfl) H
theorem c6 {h : AH} {Q : Value → AH → Prop} {a0 a1 : Value} (H : A6_0 Q a0 a1 h) : Cl Pr K 6 [a0, a1] h Q :=
  ok_enter (by kernel_rfl) (by kernel_rfl) (Eq.mp (by kernel_rfl) (H (fun i => ([a0, a1] : List Value).getD i undef) rfl))

/-! ### 22 donjon/donjonref12.New: params 2, captured 0, results [tmp 4] -/
noncomputable def L22 : List (Option Nat × List Nat) := [(some 0, [0, 1]), (some 3, [1, 5, 6]), (some 5, [1, 5, 6])]
noncomputable def A22_0 (Q : Value → AH → Prop) (t0 t1 : Value) (h : AH) : Prop := Pt Pr K 22 none (retV Pr 22 Q) 26 [0, 1] [.code (cc 22 2), .code (cc 22 3)] [] [t0, t1] h
noncomputable def A22_1 (Q : Value → AH → Prop) (t1 t5 t6 : Value) (h : AH) : Prop := Pt Pr K 22 none (retV Pr 22 Q) 26 [1, 5, 6] [.code (cc 22 464), .code (cc 22 465), .code (cc 22 233), .inLoop (cc 22 116), .inBlock 0, .code (cc 22 15)] [] [t1, t5, t6] h
noncomputable def A22_2 (Q : Value → AH → Prop) (t1 t5 t6 : Value) (h : AH) : Prop := Pt Pr K 22 none (retV Pr 22 Q) 26 [1, 5, 6] [.code (cc 22 932), .inBlock 1, .code (cc 22 467), .inLoop (cc 22 116), .inBlock 0, .code (cc 22 15)] [] [t1, t5, t6] h
theorem b22_0 {h : AH} {Q : Value → AH → Prop} {t0 t1 : Value} (H :
 thn (fillL [(I 0), (.slice none 0 0)] [(0, 1, t0)]) fun c0 =>
 thn (blkOf 97 (.agg ⟨c0⟩)) fun b2 =>
 alc h b2 fun p3 h1 =>
 A22_1 Q t1 (pt p3 0 0) (I 0) h1
) : A22_0 Q t0 t1 h := by intro e he; cases he; exact bF L22 (by kernel_rfl) H
theorem b22_1 {h : AH} {Q : Value → AH → Prop} {t1 t5 t6 : Value} (H :
 thn (biI .lss t6 t1) fun v0 =>
 Br v0 (
 A22_2 Q t1 t5 t6 h) (
 Q t5 h)
) : A22_1 Q t1 t5 t6 h := by intro e he; cases he; exact bF L22 (by kernel_rfl) H
theorem b22_2 {h : AH} {Q : Value → AH → Prop} {t1 t5 t6 : Value} (H :
 thn (nilV t5) fun v0 =>
 thn (padd 1 v0) fun v1 =>
 thn (ld1 h v1) fun v2 =>
 thn (fillL [(I 0), (.slice none 0 0), (.slice none 0 0), (I 0), (I 0), (I 0), (I 0), (I 0), (I 0), (I 0), (.bool false), (I 0), (.bool false), (.slice none 0 0), (.bool false), (.bool false), (I 0), (I 0), (I 0), (I 0), (I 0)] [(0, 1, (I (-1)))]) fun c3 =>
 thn (fillL [(I 0), (.slice none 0 0), (.slice none 0 0), (I 0), (I 0), (I 0), (I 0), (I 0), (I 0), (I 0), (.bool false), (I 0), (.bool false), (.slice none 0 0), (.bool false), (.bool false), (I 0), (I 0), (I 0), (I 0), (I 0)] [(0, 21, (.agg ⟨c3⟩))]) fun l5 =>
 alcS h 21 99 l5 1 1 fun s6 h4 =>
 thn (appV 21 208 99 h4 v2 s6) fun r7 => (fun v8 h9 =>
 thn (nilV t5) fun v10 =>
 thn (padd 1 v10) fun v11 =>
 thn (stV h9 1 v11 v8) fun h12 =>
 thn (biI .add t6 (I 1)) fun v13 =>
 A22_1 Q t1 t5 v13 h12) r7.1 r7.2
) : A22_2 Q t1 t5 t6 h := by intro e he; cases he; exact bF L22 (by kernel_rfl) H
theorem c22 {h : AH} {Q : Value → AH → Prop} {a0 a1 : Value} (H : A22_0 Q a0 a1 h) : Cl Pr K 22 [a0, a1] h Q :=
  ok_enter (by kernel_rfl) (by kernel_rfl) (Eq.mp (by kernel_rfl) (H (fun i => ([a0, a1] : List Value).getD i undef) rfl))

/-! ### 23 donjon/donjonlaw12.does: params 4, captured 0, results [tmp 8] -/
noncomputable def L23 : List (Option Nat × List Nat) := [(some 0, [0, 1, 2, 3]), (some 3, [0, 1, 6]), (some 6, [0, 1, 6, 7, 20]), (some 8, [0, 1, 6, 7]), (some 11, [0, 1, 6, 7]), (some 12, [0, 1, 6, 7, 13, 14])]
noncomputable def A23_0 (Q : Value → AH → Prop) (t0 t1 t2 t3 : Value) (h : AH) : Prop := Pt Pr K 23 none (retV Pr 23 Q) 127 [0, 1, 2, 3] [.code (cc 23 2), .code (cc 23 3)] [] [t0, t1, t2, t3] h
noncomputable def A23_1 (Q : Value → AH → Prop) (t0 t1 t6 : Value) (h : AH) : Prop := Pt Pr K 23 none (retV Pr 23 Q) 127 [0, 1, 6] [.code (cc 23 212), .code (cc 23 213), .inBlock 0, .code (cc 23 7)] [] [t0, t1, t6] h
noncomputable def A23_2 (Q : Value → AH → Prop) (t0 t1 t6 t7 t20 : Value) (h : AH) : Prop := Pt Pr K 23 none (retV Pr 23 Q) 127 [0, 1, 6, 7, 20] [.code (cc 23 214), .code (cc 23 215), .inBlock 0, .code (cc 23 7)] [] [t0, t1, t6, t7, t20] h
noncomputable def A23_3 (Q : Value → AH → Prop) (t0 t1 t6 t7 : Value) (h : AH) : Prop := Pt Pr K 23 none (retV Pr 23 Q) 127 [0, 1, 6, 7] [.code (cc 23 14), .code (cc 23 15)] [] [t0, t1, t6, t7] h
noncomputable def A23_4 (Q : Value → AH → Prop) (t0 t1 t6 t7 : Value) (h : AH) : Prop := Pt Pr K 23 none (retV Pr 23 Q) 127 [0, 1, 6, 7] [.code (cc 23 250), .code (cc 23 63)] [] [t0, t1, t6, t7] h
noncomputable def A23_5 (Q : Value → AH → Prop) (t0 t1 t6 t7 t13 t14 : Value) (h : AH) : Prop := Pt Pr K 23 none (retV Pr 23 Q) 127 [0, 1, 6, 7, 13, 14] [.code (cc 23 126), .code (cc 23 127)] [] [t0, t1, t6, t7, t13, t14] h
theorem b23_0 {h : AH} {Q : Value → AH → Prop} {t0 t1 t2 t3 : Value} (H :
 thn (blkOf 40 t2) fun b1 =>
 alc h b1 fun p2 h0 =>
 thn (blkOf 24 t3) fun b4 =>
 alc h0 b4 fun p5 h3 =>
 thn (padd 0 (pt p2 0 0)) fun v6 =>
 thn (ld1 h3 v6) fun v7 =>
 thn (biI .eql v7 (I 0)) fun v8 =>
 Br v8 (
 A23_1 Q t0 t1 (pt p2 0 0) h3) (
 A23_2 Q t0 t1 (pt p2 0 0) (pt p5 0 0) v7 h3)
) : A23_0 Q t0 t1 t2 t3 h := by intro e he; cases he; exact bF L23 (by kernel_rfl) H
theorem b23_1 {h : AH} {Q : Value → AH → Prop} {t0 t1 t6 : Value} (H :
 thn (padd 1 t6) fun v0 =>
 thn (ldN h 9 v0) fun v1 =>
 Cl Pr K 10 [t0, v1] h fun v2 h2 => -- (*donjon/home.Home).Take
 thn (extV 0 v2) fun v3 =>
 thn (extV 1 v2) fun v4 =>
 thn (padd 1 t6) fun v5 =>
 thn (ldN h2 9 v5) fun v6 =>
 Cl Pr K 39 [t1, v6] h2 fun v7 h7 => -- (*donjon/donjonref12.Home).Take
 thn (extV 0 v7) fun v8 =>
 thn (extV 1 v7) fun v9 =>
 Cl Pr K 18 [v3, v8] h7 fun v10 h10 => -- donjon/donjonlaw12.Notes
 Br v10 (
 thn (biI .eql v4 v9) fun v11 =>
 Q v11 h10) (
 Q (.bool false) h10)
) : A23_1 Q t0 t1 t6 h := by intro e he; cases he; exact bF L23 (by kernel_rfl) H
theorem b23_2 {h : AH} {Q : Value → AH → Prop} {t0 t1 t6 t7 t20 : Value} (H :
 thn (biI .eql t20 (I 1)) fun v0 =>
 Br v0 (
 resv h 10 fun r2 h1 =>
 thn (padd 10 t6) fun v3 =>
 thn (ld1 h1 v3) fun v4 =>
 Cl Pr K 11 [t0, v4] h1 fun v5 h5 => -- (*donjon/home.Home).Sweep
 thn (padd 10 t6) fun v6 =>
 thn (ld1 h5 v6) fun v7 =>
 Cl Pr K 40 [t1, v7] h5 fun v8 h8 => -- (*donjon/donjonref12.Home).Sweep
 thn (biI .eql v5 v8) fun v9 =>
(veq t1 t1 = true) ∧ (
(thn (padd 10 t6) fun v10 =>
 veq v10 v6 = true) ∧ (
(thn (ld1 h1 v6) fun v11 =>
 veq v11 v7 = true) ∧ (
 Q v9 h8)))) (
 A23_3 Q t0 t1 t6 t7 h)
) : A23_2 Q t0 t1 t6 t7 t20 h := by intro e he; cases he; exact bF L23 (by kernel_rfl) H
theorem b23_3 {h : AH} {Q : Value → AH → Prop} {t0 t1 t6 t7 : Value} (H :
 resv h 26 fun r1 h0 =>
 thn (padd 10 t6) fun v2 =>
 thn (ld1 h0 v2) fun v3 =>
 thn (biI .geq v3 (I 0)) fun v4 =>
 Br v4 (
 thn (padd 10 t6) fun v5 =>
 thn (ld1 h0 v5) fun v6 =>
 thn (nilV t1) fun v7 =>
 thn (padd 1 v7) fun v8 =>
 thn (ld1 h0 v8) fun v9 =>
 thn (lenS v9) fun v10 =>
 thn (biI .lss v6 v10) fun v11 =>
 Br v11 (
 thn (nilV t1) fun v12 =>
 thn (padd 1 v12) fun v13 =>
 thn (ld1 h0 v13) fun v14 =>
 thn (padd 10 t6) fun v15 =>
 thn (ld1 h0 v15) fun v16 =>
 thn (idxS 21 v14 v16) fun v17 =>
 thn (padd 2 v17) fun v18 =>
 thn (ld1 h0 v18) fun v19 =>
 thn (lenS v19) fun v20 =>
 thn (biI .gtr v20 (I 0)) fun v21 =>
 Br v21 (
 A23_4 Q t0 t1 t6 t7 h0) (
 A23_5 Q t0 t1 t6 t7 (.bool true) (I 0) h0)) (
 thn (padd 10 t6) fun v12 =>
 thn (ld1 h0 v12) fun v13 =>
 thn (ldN h0 1 t7) fun v14 =>
 Cl Pr K 13 [t0, v13, (.iface 24 v14)] h0 fun v15 h15 => -- (*donjon/home.Home).Begin
 thn (extV 0 v15) fun v16 =>
 thn (extV 1 v15) fun v17 =>
 thn (padd 10 t6) fun v18 =>
 thn (ld1 h15 v18) fun v19 =>
 Cl Pr K 42 [t1, v19, (.bool true), (I 0)] h15 fun v20 h20 => -- (*donjon/donjonref12.Home).Begin
 thn (extV 0 v20) fun v21 =>
 thn (extV 1 v20) fun v22 =>
 Cl Pr K 18 [v16, v21] h20 fun v23 h23 => -- donjon/donjonlaw12.Notes
 Br v23 (
 thn (biI .eql v17 v22) fun v24 =>
 Q v24 h23) (
 Q (.bool false) h23))) (
 thn (padd 10 t6) fun v5 =>
 thn (ld1 h0 v5) fun v6 =>
 thn (ldN h0 1 t7) fun v7 =>
 Cl Pr K 13 [t0, v6, (.iface 24 v7)] h0 fun v8 h8 => -- (*donjon/home.Home).Begin
 thn (extV 0 v8) fun v9 =>
 thn (extV 1 v8) fun v10 =>
 thn (padd 10 t6) fun v11 =>
 thn (ld1 h8 v11) fun v12 =>
 Cl Pr K 42 [t1, v12, (.bool true), (I 0)] h8 fun v13 h13 => -- (*donjon/donjonref12.Home).Begin
 thn (extV 0 v13) fun v14 =>
 thn (extV 1 v13) fun v15 =>
 Cl Pr K 18 [v9, v14] h13 fun v16 h16 => -- donjon/donjonlaw12.Notes
 Br v16 (
 thn (biI .eql v10 v15) fun v17 =>
 Q v17 h16) (
 Q (.bool false) h16))
) : A23_3 Q t0 t1 t6 t7 h := by intro e he; cases he; exact bF L23 (by kernel_rfl) H
theorem b23_4 {h : AH} {Q : Value → AH → Prop} {t0 t1 t6 t7 : Value} (H :
 resv h 21 fun r1 h0 =>
 thn (ldN h0 1 t7) fun v2 =>
 thn (nilV t1) fun v3 =>
 thn (padd 1 v3) fun v4 =>
 thn (ld1 h0 v4) fun v5 =>
 thn (padd 10 t6) fun v6 =>
 thn (ld1 h0 v6) fun v7 =>
 thn (idxS 21 v5 v7) fun v8 =>
 thn (padd 2 v8) fun v9 =>
 thn (ld1 h0 v9) fun v10 =>
 thn (idxS 9 v10 (I 0)) fun v11 =>
 thn (padd 3 v11) fun v12 =>
 thn (ld1 h0 v12) fun v13 =>
 thn (padd 10 t6) fun v14 =>
 thn (ld1 h0 v14) fun v15 =>
 Cl Pr K 41 [v2, v13, v15] h0 fun v16 h16 => -- (donjon/donjonlaw12.Rule).May
 thn (extV 0 v16) fun v17 =>
 thn (extV 1 v16) fun v18 =>
 thn (padd 10 t6) fun v19 =>
 thn (ld1 h16 v19) fun v20 =>
 thn (ldN h16 1 t7) fun v21 =>
 Cl Pr K 13 [t0, v20, (.iface 24 v21)] h16 fun v22 h22 => -- (*donjon/home.Home).Begin
 thn (extV 0 v22) fun v23 =>
 thn (extV 1 v22) fun v24 =>
 thn (padd 10 t6) fun v25 =>
 thn (ld1 h22 v25) fun v26 =>
 Cl Pr K 42 [t1, v26, v18, v17] h22 fun v27 h27 => -- (*donjon/donjonref12.Home).Begin
 thn (extV 0 v27) fun v28 =>
 thn (extV 1 v27) fun v29 =>
 Cl Pr K 18 [v23, v28] h27 fun v30 h30 => -- donjon/donjonlaw12.Notes
 Br v30 (
 thn (biI .eql v24 v29) fun v31 =>
 Q v31 h30) (
 Q (.bool false) h30)
) : A23_4 Q t0 t1 t6 t7 h := by intro e he; cases he; exact bF L23 (by kernel_rfl) H
theorem b23_5 {h : AH} {Q : Value → AH → Prop} {t0 t1 t6 t7 t13 t14 : Value} (H :
 thn (padd 10 t6) fun v0 =>
 thn (ld1 h v0) fun v1 =>
 thn (ldN h 1 t7) fun v2 =>
 Cl Pr K 13 [t0, v1, (.iface 24 v2)] h fun v3 h3 => -- (*donjon/home.Home).Begin
 thn (extV 0 v3) fun v4 =>
 thn (extV 1 v3) fun v5 =>
 thn (padd 10 t6) fun v6 =>
 thn (ld1 h3 v6) fun v7 =>
 Cl Pr K 42 [t1, v7, t13, t14] h3 fun v8 h8 => -- (*donjon/donjonref12.Home).Begin
 thn (extV 0 v8) fun v9 =>
 thn (extV 1 v8) fun v10 =>
 Cl Pr K 18 [v4, v9] h8 fun v11 h11 => -- donjon/donjonlaw12.Notes
 Br v11 (
 thn (biI .eql v5 v10) fun v12 =>
 Q v12 h11) (
 Q (.bool false) h11)
) : A23_5 Q t0 t1 t6 t7 t13 t14 h := by intro e he; cases he; exact bF L23 (by kernel_rfl) H
theorem c23 {h : AH} {Q : Value → AH → Prop} {a0 a1 a2 a3 : Value} (H : A23_0 Q a0 a1 a2 a3 h) : Cl Pr K 23 [a0, a1, a2, a3] h Q :=
  ok_enter (by kernel_rfl) (by kernel_rfl) (Eq.mp (by kernel_rfl) (H (fun i => ([a0, a1, a2, a3] : List Value).getD i undef) rfl))

/-! ### 39 (*donjon/donjonref12.Home).Take: params 2, captured 0, results [tmp 4, tmp 5] -/
noncomputable def L39 : List (Option Nat × List Nat) := [(some 0, [0, 1]), (some 3, [0, 3]), (some 5, [0, 3]), (some 7, [3, 6]), (some 12, [3, 6]), (some 9, [6]), (some 13, [3, 6]), (some 15, [3, 6]), (some 17, [3, 6]), (some 19, [3, 6]), (some 27, [3, 6]), (some 20, [3, 6]), (some 24, [3, 6]), (some 28, [3, 6]), (some 29, [3, 6]), (some 25, [3, 6]), (some 32, [6]), (some 23, [3, 6]), (some 31, [3, 6]), (some 34, [6]), (some 35, [6])]
noncomputable def A39_0 (Q : Value → AH → Prop) (t0 t1 : Value) (h : AH) : Prop := Pt Pr K 39 none (retV Pr 39 Q) 219 [0, 1] [.code (cc 39 2), .code (cc 39 3)] [] [t0, t1] h
noncomputable def A39_1 (Q : Value → AH → Prop) (t0 t3 : Value) (h : AH) : Prop := Pt Pr K 39 none (retV Pr 39 Q) 219 [0, 3] [.code (cc 39 28), .code (cc 39 29), .code (cc 39 15)] [] [t0, t3] h
noncomputable def A39_2 (Q : Value → AH → Prop) (t0 t3 : Value) (h : AH) : Prop := Pt Pr K 39 none (retV Pr 39 Q) 219 [0, 3] [.code (cc 39 30), .code (cc 39 31)] [] [t0, t3] h
noncomputable def A39_3 (Q : Value → AH → Prop) (t3 t6 : Value) (h : AH) : Prop := Pt Pr K 39 none (retV Pr 39 Q) 219 [3, 6] [.code (cc 39 1000), .code (cc 39 1001), .code (cc 39 501), .code (cc 39 63)] [] [t3, t6] h
noncomputable def A39_4 (Q : Value → AH → Prop) (t3 t6 : Value) (h : AH) : Prop := Pt Pr K 39 none (retV Pr 39 Q) 219 [3, 6] [.code (cc 39 252), .code (cc 39 253), .code (cc 39 127)] [] [t3, t6] h
noncomputable def A39_5 (Q : Value → AH → Prop) (t6 : Value) (h : AH) : Prop := Pt Pr K 39 none (retV Pr 39 Q) 219 [6] [.code (cc 39 1002), .code (cc 39 1003), .code (cc 39 63)] [] [t6] h
noncomputable def A39_6 (Q : Value → AH → Prop) (t3 t6 : Value) (h : AH) : Prop := Pt Pr K 39 none (retV Pr 39 Q) 219 [3, 6] [.code (cc 39 1012), .code (cc 39 1013), .code (cc 39 127)] [] [t3, t6] h
noncomputable def A39_7 (Q : Value → AH → Prop) (t3 t6 : Value) (h : AH) : Prop := Pt Pr K 39 none (retV Pr 39 Q) 219 [3, 6] [.code (cc 39 508), .code (cc 39 509), .code (cc 39 255)] [] [t3, t6] h
noncomputable def A39_8 (Q : Value → AH → Prop) (t3 t6 : Value) (h : AH) : Prop := Pt Pr K 39 none (retV Pr 39 Q) 219 [3, 6] [.code (cc 39 510), .code (cc 39 511)] [] [t3, t6] h
noncomputable def A39_9 (Q : Value → AH → Prop) (t3 t6 : Value) (h : AH) : Prop := Pt Pr K 39 none (retV Pr 39 Q) 219 [3, 6] [.code (cc 39 16360), .code (cc 39 16361), .code (cc 39 8181), .code (cc 39 1023)] [] [t3, t6] h
noncomputable def A39_10 (Q : Value → AH → Prop) (t3 t6 : Value) (h : AH) : Prop := Pt Pr K 39 none (retV Pr 39 Q) 219 [3, 6] [.code (cc 39 16364), .code (cc 39 16365), .code (cc 39 8183), .code (cc 39 1023)] [] [t3, t6] h
noncomputable def A39_11 (Q : Value → AH → Prop) (t3 t6 : Value) (h : AH) : Prop := Pt Pr K 39 none (retV Pr 39 Q) 219 [3, 6] [.code (cc 39 65444), .code (cc 39 65445), .code (cc 39 8181), .code (cc 39 1023)] [] [t3, t6] h
noncomputable def A39_12 (Q : Value → AH → Prop) (t3 t6 : Value) (h : AH) : Prop := Pt Pr K 39 none (retV Pr 39 Q) 219 [3, 6] [.code (cc 39 16362), .code (cc 39 16363), .code (cc 39 1023)] [] [t3, t6] h
noncomputable def A39_13 (Q : Value → AH → Prop) (t3 t6 : Value) (h : AH) : Prop := Pt Pr K 39 none (retV Pr 39 Q) 219 [3, 6] [.code (cc 39 32730), .code (cc 39 8183), .code (cc 39 1023)] [] [t3, t6] h
noncomputable def A39_14 (Q : Value → AH → Prop) (t3 t6 : Value) (h : AH) : Prop := Pt Pr K 39 none (retV Pr 39 Q) 219 [3, 6] [.code (cc 39 16366), .code (cc 39 16367), .code (cc 39 1023)] [] [t3, t6] h
noncomputable def A39_15 (Q : Value → AH → Prop) (t3 t6 : Value) (h : AH) : Prop := Pt Pr K 39 none (retV Pr 39 Q) 219 [3, 6] [.code (cc 39 65452), .code (cc 39 65453), .code (cc 39 1023)] [] [t3, t6] h
noncomputable def A39_16 (Q : Value → AH → Prop) (t6 : Value) (h : AH) : Prop := Pt Pr K 39 none (retV Pr 39 Q) 219 [6] [.code (cc 39 4092), .code (cc 39 4093), .code (cc 39 2047)] [] [t6] h
noncomputable def A39_17 (Q : Value → AH → Prop) (t3 t6 : Value) (h : AH) : Prop := Pt Pr K 39 none (retV Pr 39 Q) 219 [3, 6] [.code (cc 39 523566), .code (cc 39 8181), .code (cc 39 1023)] [] [t3, t6] h
noncomputable def A39_18 (Q : Value → AH → Prop) (t3 t6 : Value) (h : AH) : Prop := Pt Pr K 39 none (retV Pr 39 Q) 219 [3, 6] [.code (cc 39 65470), .code (cc 39 1023)] [] [t3, t6] h
noncomputable def A39_19 (Q : Value → AH → Prop) (t6 : Value) (h : AH) : Prop := Pt Pr K 39 none (retV Pr 39 Q) 219 [6] [.code (cc 39 8188), .code (cc 39 8189), .code (cc 39 4095)] [] [t6] h
noncomputable def A39_20 (Q : Value → AH → Prop) (t6 : Value) (h : AH) : Prop := Pt Pr K 39 none (retV Pr 39 Q) 219 [6] [.code (cc 39 32756), .code (cc 39 32757), .code (cc 39 4095)] [] [t6] h
theorem b39_0 {h : AH} {Q : Value → AH → Prop} {t0 t1 : Value} (H :
 thn (blkOf 38 t1) fun b1 =>
 alc h b1 fun p2 h0 =>
 thn (padd 0 (pt p2 0 0)) fun v3 =>
 thn (ld1 h0 v3) fun v4 =>
 thn (biI .neq v4 (I 1)) fun v5 =>
 Br v5 (
 thn (padd 0 (pt p2 0 0)) fun v6 =>
 thn (ld1 h0 v6) fun v7 =>
 thn (biI .neq v7 (I 2)) fun v8 =>
 Br v8 (
 thn (padd 0 (pt p2 0 0)) fun v9 =>
 thn (ld1 h0 v9) fun v10 =>
 thn (biI .neq v10 (I 3)) fun v11 =>
 Br v11 (
 thn (padd 0 (pt p2 0 0)) fun v12 =>
 thn (ld1 h0 v12) fun v13 =>
 thn (biI .neq v13 (I 4)) fun v14 =>
 Br v14 (
 thn (padd 0 (pt p2 0 0)) fun v15 =>
 thn (ld1 h0 v15) fun v16 =>
 thn (biI .neq v16 (I 5)) fun v17 =>
 Br v17 (
 Q (.tuple ⟨[(.slice none 0 0), (I 15)]⟩) h0) (
 A39_1 Q t0 (pt p2 0 0) h0)) (
 resv h0 27 fun r16 h15 =>
 thn (padd 1 (pt p2 0 0)) fun v17 =>
 thn (ld1 h15 v17) fun v18 =>
 thn (biI .lss v18 (I 0)) fun v19 =>
 Br v19 (
 Q (.tuple ⟨[(.slice none 0 0), (I 10)]⟩) h15) (
 thn (padd 1 (pt p2 0 0)) fun v20 =>
 thn (ld1 h15 v20) fun v21 =>
 thn (nilV t0) fun v22 =>
 thn (padd 0 v22) fun v23 =>
 thn (ld1 h15 v23) fun v24 =>
 thn (biI .geq v21 v24) fun v25 =>
 Br v25 (
 Q (.tuple ⟨[(.slice none 0 0), (I 10)]⟩) h15) (
 thn (padd 2 (pt p2 0 0)) fun v26 =>
 thn (ld1 h15 v26) fun v27 =>
 thn (biI .lss v27 (I 0)) fun v28 =>
 Br v28 (
 Q (.tuple ⟨[(.slice none 0 0), (I 10)]⟩) h15) (
 thn (padd 2 (pt p2 0 0)) fun v29 =>
 thn (ld1 h15 v29) fun v30 =>
 thn (nilV t0) fun v31 =>
 thn (padd 1 v31) fun v32 =>
 thn (ld1 h15 v32) fun v33 =>
 thn (lenS v33) fun v34 =>
 thn (biI .geq v30 v34) fun v35 =>
 Br v35 (
 Q (.tuple ⟨[(.slice none 0 0), (I 10)]⟩) h15) (
 A39_2 Q t0 (pt p2 0 0) h15)))))) (
 resv h0 27 fun r13 h12 =>
 thn (padd 1 (pt p2 0 0)) fun v14 =>
 thn (ld1 h12 v14) fun v15 =>
 thn (biI .lss v15 (I 0)) fun v16 =>
 Br v16 (
 Q (.tuple ⟨[(.slice none 0 0), (I 10)]⟩) h12) (
 thn (padd 1 (pt p2 0 0)) fun v17 =>
 thn (ld1 h12 v17) fun v18 =>
 thn (nilV t0) fun v19 =>
 thn (padd 0 v19) fun v20 =>
 thn (ld1 h12 v20) fun v21 =>
 thn (biI .geq v18 v21) fun v22 =>
 Br v22 (
 Q (.tuple ⟨[(.slice none 0 0), (I 10)]⟩) h12) (
 thn (padd 2 (pt p2 0 0)) fun v23 =>
 thn (ld1 h12 v23) fun v24 =>
 thn (biI .lss v24 (I 0)) fun v25 =>
 Br v25 (
 Q (.tuple ⟨[(.slice none 0 0), (I 10)]⟩) h12) (
 thn (padd 2 (pt p2 0 0)) fun v26 =>
 thn (ld1 h12 v26) fun v27 =>
 thn (nilV t0) fun v28 =>
 thn (padd 1 v28) fun v29 =>
 thn (ld1 h12 v29) fun v30 =>
 thn (lenS v30) fun v31 =>
 thn (biI .geq v27 v31) fun v32 =>
 Br v32 (
 Q (.tuple ⟨[(.slice none 0 0), (I 10)]⟩) h12) (
 A39_2 Q t0 (pt p2 0 0) h12)))))) (
 resv h0 27 fun r10 h9 =>
 thn (padd 1 (pt p2 0 0)) fun v11 =>
 thn (ld1 h9 v11) fun v12 =>
 thn (biI .lss v12 (I 0)) fun v13 =>
 Br v13 (
 Q (.tuple ⟨[(.slice none 0 0), (I 10)]⟩) h9) (
 thn (padd 1 (pt p2 0 0)) fun v14 =>
 thn (ld1 h9 v14) fun v15 =>
 thn (nilV t0) fun v16 =>
 thn (padd 0 v16) fun v17 =>
 thn (ld1 h9 v17) fun v18 =>
 thn (biI .geq v15 v18) fun v19 =>
 Br v19 (
 Q (.tuple ⟨[(.slice none 0 0), (I 10)]⟩) h9) (
 thn (padd 2 (pt p2 0 0)) fun v20 =>
 thn (ld1 h9 v20) fun v21 =>
 thn (biI .lss v21 (I 0)) fun v22 =>
 Br v22 (
 Q (.tuple ⟨[(.slice none 0 0), (I 10)]⟩) h9) (
 thn (padd 2 (pt p2 0 0)) fun v23 =>
 thn (ld1 h9 v23) fun v24 =>
 thn (nilV t0) fun v25 =>
 thn (padd 1 v25) fun v26 =>
 thn (ld1 h9 v26) fun v27 =>
 thn (lenS v27) fun v28 =>
 thn (biI .geq v24 v28) fun v29 =>
 Br v29 (
 Q (.tuple ⟨[(.slice none 0 0), (I 10)]⟩) h9) (
 A39_2 Q t0 (pt p2 0 0) h9)))))) (
 resv h0 27 fun r7 h6 =>
 thn (padd 1 (pt p2 0 0)) fun v8 =>
 thn (ld1 h6 v8) fun v9 =>
 thn (biI .lss v9 (I 0)) fun v10 =>
 Br v10 (
 Q (.tuple ⟨[(.slice none 0 0), (I 10)]⟩) h6) (
 thn (padd 1 (pt p2 0 0)) fun v11 =>
 thn (ld1 h6 v11) fun v12 =>
 thn (nilV t0) fun v13 =>
 thn (padd 0 v13) fun v14 =>
 thn (ld1 h6 v14) fun v15 =>
 thn (biI .geq v12 v15) fun v16 =>
 Br v16 (
 Q (.tuple ⟨[(.slice none 0 0), (I 10)]⟩) h6) (
 thn (padd 2 (pt p2 0 0)) fun v17 =>
 thn (ld1 h6 v17) fun v18 =>
 thn (biI .lss v18 (I 0)) fun v19 =>
 Br v19 (
 Q (.tuple ⟨[(.slice none 0 0), (I 10)]⟩) h6) (
 thn (padd 2 (pt p2 0 0)) fun v20 =>
 thn (ld1 h6 v20) fun v21 =>
 thn (nilV t0) fun v22 =>
 thn (padd 1 v22) fun v23 =>
 thn (ld1 h6 v23) fun v24 =>
 thn (lenS v24) fun v25 =>
 thn (biI .geq v21 v25) fun v26 =>
 Br v26 (
 Q (.tuple ⟨[(.slice none 0 0), (I 10)]⟩) h6) (
 A39_2 Q t0 (pt p2 0 0) h6)))))
) : A39_0 Q t0 t1 h := by intro e he; cases he; exact bF L39 (by kernel_rfl) H
theorem b39_1 {h : AH} {Q : Value → AH → Prop} {t0 t3 : Value} (H :
 resv h 27 fun r1 h0 =>
 thn (padd 1 t3) fun v2 =>
 thn (ld1 h0 v2) fun v3 =>
 thn (biI .lss v3 (I 0)) fun v4 =>
 Br v4 (
 Q (.tuple ⟨[(.slice none 0 0), (I 10)]⟩) h0) (
 thn (padd 1 t3) fun v5 =>
 thn (ld1 h0 v5) fun v6 =>
 thn (nilV t0) fun v7 =>
 thn (padd 0 v7) fun v8 =>
 thn (ld1 h0 v8) fun v9 =>
 thn (biI .geq v6 v9) fun v10 =>
 Br v10 (
 Q (.tuple ⟨[(.slice none 0 0), (I 10)]⟩) h0) (
 thn (padd 2 t3) fun v11 =>
 thn (ld1 h0 v11) fun v12 =>
 thn (biI .lss v12 (I 0)) fun v13 =>
 Br v13 (
 Q (.tuple ⟨[(.slice none 0 0), (I 10)]⟩) h0) (
 thn (padd 2 t3) fun v14 =>
 thn (ld1 h0 v14) fun v15 =>
 thn (nilV t0) fun v16 =>
 thn (padd 1 v16) fun v17 =>
 thn (ld1 h0 v17) fun v18 =>
 thn (lenS v18) fun v19 =>
 thn (biI .geq v15 v19) fun v20 =>
 Br v20 (
 Q (.tuple ⟨[(.slice none 0 0), (I 10)]⟩) h0) (
 A39_2 Q t0 t3 h0))))
) : A39_1 Q t0 t3 h := by intro e he; cases he; exact bF L39 (by kernel_rfl) H
theorem b39_2 {h : AH} {Q : Value → AH → Prop} {t0 t3 : Value} (H :
 resv h 8 fun r1 h0 =>
 thn (nilV t0) fun v2 =>
 thn (padd 1 v2) fun v3 =>
 thn (ld1 h0 v3) fun v4 =>
 thn (padd 2 t3) fun v5 =>
 thn (ld1 h0 v5) fun v6 =>
 thn (idxS 21 v4 v6) fun v7 =>
 thn (padd 0 t3) fun v8 =>
 thn (ld1 h0 v8) fun v9 =>
 thn (biI .eql v9 (I 4)) fun v10 =>
 Br v10 (
 A39_3 Q t3 v7 h0) (
 A39_4 Q t3 v7 h0)
) : A39_2 Q t0 t3 h := by intro e he; cases he; exact bF L39 (by kernel_rfl) H
theorem b39_3 {h : AH} {Q : Value → AH → Prop} {t3 t6 : Value} (H :
 resv h 15 fun r1 h0 =>
 thn (nilV t6) fun v2 =>
 thn (padd 14 v2) fun v3 =>
 thn (ld1 h0 v3) fun v4 =>
 thn (unV .not v4) fun v5 =>
 Br v5 (
 Q (.tuple ⟨[(.slice none 0 0), (I 16)]⟩) h0) (
 thn (nilV t6) fun v6 =>
 thn (padd 3 v6) fun v7 =>
 thn (padd 1 v7) fun v8 =>
 thn (ld1 h0 v8) fun v9 =>
 thn (padd 1 t3) fun v10 =>
 thn (ld1 h0 v10) fun v11 =>
 thn (biI .neq v9 v11) fun v12 =>
 Br v12 (
 Q (.tuple ⟨[(.slice none 0 0), (I 16)]⟩) h0) (
 A39_5 Q t6 h0))
) : A39_3 Q t3 t6 h := by intro e he; cases he; exact bF L39 (by kernel_rfl) H
theorem b39_4 {h : AH} {Q : Value → AH → Prop} {t3 t6 : Value} (H :
 thn (padd 0 t3) fun v0 =>
 thn (ld1 h v0) fun v1 =>
 thn (biI .neq v1 (I 5)) fun v2 =>
 Br v2 (
 A39_6 Q t3 t6 h) (
 A39_7 Q t3 t6 h)
) : A39_4 Q t3 t6 h := by intro e he; cases he; exact bF L39 (by kernel_rfl) H
theorem b39_5 {h : AH} {Q : Value → AH → Prop} {t6 : Value} (H :
 thn (nilV t6) fun v0 =>
 thn (padd 12 v0) fun v1 =>
 thn (stV h 1 v1 (.bool false)) fun h2 =>
 thn (nilV t6) fun v3 =>
 thn (padd 14 v3) fun v4 =>
 thn (stV h2 1 v4 (.bool false)) fun h5 =>
 Q (.tuple ⟨[(.slice none 0 0), (I 0)]⟩) h5
) : A39_5 Q t6 h := by intro e he; cases he; exact bF L39 (by kernel_rfl) H
theorem b39_6 {h : AH} {Q : Value → AH → Prop} {t3 t6 : Value} (H :
 resv h 11 fun r1 h0 =>
 thn (nilV t6) fun v2 =>
 thn (padd 2 v2) fun v3 =>
 thn (ld1 h0 v3) fun v4 =>
 thn (ldN h0 9 t3) fun v5 =>
 thn (fillL [(I 0), (I 0), (I 0), (I 0), (I 0), (I 0), (I 0), (.bool false), (I 0)] [(0, 9, v5)]) fun l7 =>
 alcSAt h0 (r1 + 6) 9 38 l7 1 1 fun s8 h6 =>
 thn (appV 9 72 38 h6 v4 s8) fun r9 => (fun v10 h11 =>
 thn (nilV t6) fun v12 =>
 thn (padd 2 v12) fun v13 =>
 thn (stV h11 1 v13 v10) fun h14 =>
(veq t6 t6 = true) ∧ (
 Q (.tuple ⟨[(.slice none 0 0), (I 0)]⟩) h14)) r9.1 r9.2
) : A39_6 Q t3 t6 h := by intro e he; cases he; exact bF L39 (by kernel_rfl) H
theorem b39_7 {h : AH} {Q : Value → AH → Prop} {t3 t6 : Value} (H :
 resv h 8 fun r1 h0 =>
 thn (nilV t6) fun v2 =>
 thn (padd 13 v2) fun v3 =>
 thn (ld1 h0 v3) fun v4 =>
 thn (padd 1 t3) fun v5 =>
 thn (ld1 h0 v5) fun v6 =>
 Cl Pr K 52 [v4, v6] h0 fun v7 h7 => -- donjon/donjonref12.in
 thn (unV .not v7) fun v8 =>
 Br v8 (
 Q (.tuple ⟨[(.slice none 0 0), (I 16)]⟩) h7) (
 A39_8 Q t3 t6 h7)
) : A39_7 Q t3 t6 h := by intro e he; cases he; exact bF L39 (by kernel_rfl) H
theorem b39_8 {h : AH} {Q : Value → AH → Prop} {t3 t6 : Value} (H :
 resv h 11 fun r1 h0 =>
 thn (nilV t6) fun v2 =>
 thn (padd 13 v2) fun v3 =>
 thn (ld1 h0 v3) fun v4 =>
 thn (padd 1 t3) fun v5 =>
 thn (ld1 h0 v5) fun v6 =>
 Cl Pr K 53 [v4, v6] h0 fun v7 h7 => -- donjon/donjonref12.without
 thn (nilV t6) fun v8 =>
 thn (padd 13 v8) fun v9 =>
 thn (stV h7 1 v9 v7) fun h10 =>
(veq t6 t6 = true) ∧ (
 thn (nilV t6) fun v11 =>
 thn (padd 3 v11) fun v12 =>
 thn (padd 0 v12) fun v13 =>
 thn (ld1 h10 v13) fun v14 =>
 thn (biI .eql v14 (I 1)) fun v15 =>
 Br v15 (
 A39_9 Q t3 t6 h10) (
 A39_10 Q t3 t6 h10))
) : A39_8 Q t3 t6 h := by intro e he; cases he; exact bF L39 (by kernel_rfl) H
theorem b39_9 {h : AH} {Q : Value → AH → Prop} {t3 t6 : Value} (H :
 thn (padd 4 t3) fun v0 =>
 thn (ld1 h v0) fun v1 =>
 thn (biI .neq v1 (I 3)) fun v2 =>
 Br v2 (
 A39_11 Q t3 t6 h) (
 A39_12 Q t3 t6 h)
) : A39_9 Q t3 t6 h := by intro e he; cases he; exact bF L39 (by kernel_rfl) H
theorem b39_10 {h : AH} {Q : Value → AH → Prop} {t3 t6 : Value} (H :
 resv h 7 fun r1 h0 =>
 thn (nilV t6) fun v2 =>
 thn (padd 0 v2) fun v3 =>
 thn (ld1 h0 v3) fun v4 =>
 thn (padd 1 t3) fun v5 =>
 thn (ld1 h0 v5) fun v6 =>
 thn (biI .eql v4 v6) fun v7 =>
 Br v7 (
 A39_13 Q t3 t6 h0) (
 A39_14 Q t3 t6 h0)
) : A39_10 Q t3 t6 h := by intro e he; cases he; exact bF L39 (by kernel_rfl) H
theorem b39_11 {h : AH} {Q : Value → AH → Prop} {t3 t6 : Value} (H :
 thn (nilV t6) fun v0 =>
 thn (padd 0 v0) fun v1 =>
 thn (stV h 1 v1 (I (-1))) fun h2 =>
 resv h2 11 fun r4 h3 =>
 thn (nilV t6) fun v5 =>
 thn (padd 1 v5) fun v6 =>
 thn (ld1 h3 v6) fun v7 =>
 thn (padd 1 t3) fun v8 =>
 thn (ld1 h3 v8) fun v9 =>
 Cl Pr K 53 [v7, v9] h3 fun v10 h10 => -- donjon/donjonref12.without
 thn (nilV t6) fun v11 =>
 thn (padd 1 v11) fun v12 =>
 thn (stV h10 1 v12 v10) fun h13 =>
(veq t6 t6 = true) ∧ (
 thn (padd 4 t3) fun v14 =>
 thn (ld1 h13 v14) fun v15 =>
 thn (biI .eql v15 (I 1)) fun v16 =>
 Br v16 (
 resv h13 12 fun r18 h17 =>
 thn (nilV t6) fun v19 =>
 thn (padd 1 v19) fun v20 =>
 thn (ld1 h17 v20) fun v21 =>
 thn (padd 1 t3) fun v22 =>
 thn (ld1 h17 v22) fun v23 =>
 thn (fillL [(I 0)] [(0, 1, v23)]) fun l25 =>
 alcSAt h17 (r18 + 7) 1 3 l25 1 1 fun s26 h24 =>
 thn (appV 1 8 3 h24 v21 s26) fun r27 => (fun v28 h29 =>
 thn (nilV t6) fun v30 =>
 thn (padd 1 v30) fun v31 =>
 thn (stV h29 1 v31 v28) fun h32 =>
(veq t6 t6 = true) ∧ (
 thn (padd 7 t3) fun v33 =>
 thn (ld1 h32 v33) fun v34 =>
 Br v34 (
 A39_15 Q t3 t6 h32) (
 A39_16 Q t6 h32))) r27.1 r27.2) (
 thn (padd 4 t3) fun v17 =>
 thn (ld1 h13 v17) fun v18 =>
 thn (biI .eql v18 (I 2)) fun v19 =>
 Br v19 (
 resv h13 12 fun r21 h20 =>
 thn (nilV t6) fun v22 =>
 thn (padd 1 v22) fun v23 =>
 thn (ld1 h20 v23) fun v24 =>
 thn (padd 1 t3) fun v25 =>
 thn (ld1 h20 v25) fun v26 =>
 thn (fillL [(I 0)] [(0, 1, v26)]) fun l28 =>
 alcSAt h20 (r21 + 7) 1 3 l28 1 1 fun s29 h27 =>
 thn (appV 1 8 3 h27 v24 s29) fun r30 => (fun v31 h32 =>
 thn (nilV t6) fun v33 =>
 thn (padd 1 v33) fun v34 =>
 thn (stV h32 1 v34 v31) fun h35 =>
(veq t6 t6 = true) ∧ (
 thn (padd 7 t3) fun v36 =>
 thn (ld1 h35 v36) fun v37 =>
 Br v37 (
 A39_15 Q t3 t6 h35) (
 A39_16 Q t6 h35))) r30.1 r30.2) (
 thn (padd 4 t3) fun v20 =>
 thn (ld1 h13 v20) fun v21 =>
 thn (biI .eql v21 (I 4)) fun v22 =>
 Br v22 (
 A39_17 Q t3 t6 h13) (
 A39_12 Q t3 t6 h13))))
) : A39_11 Q t3 t6 h := by intro e he; cases he; exact bF L39 (by kernel_rfl) H
theorem b39_12 {h : AH} {Q : Value → AH → Prop} {t3 t6 : Value} (H :
 thn (padd 7 t3) fun v0 =>
 thn (ld1 h v0) fun v1 =>
 Br v1 (
 A39_15 Q t3 t6 h) (
 A39_16 Q t6 h)
) : A39_12 Q t3 t6 h := by intro e he; cases he; exact bF L39 (by kernel_rfl) H
theorem b39_13 {h : AH} {Q : Value → AH → Prop} {t3 t6 : Value} (H :
 thn (nilV t6) fun v0 =>
 thn (padd 0 v0) fun v1 =>
 thn (stV h 1 v1 (I (-1))) fun h2 =>
 resv h2 11 fun r4 h3 =>
 thn (nilV t6) fun v5 =>
 thn (padd 1 v5) fun v6 =>
 thn (ld1 h3 v6) fun v7 =>
 thn (padd 1 t3) fun v8 =>
 thn (ld1 h3 v8) fun v9 =>
 Cl Pr K 53 [v7, v9] h3 fun v10 h10 => -- donjon/donjonref12.without
 thn (nilV t6) fun v11 =>
 thn (padd 1 v11) fun v12 =>
 thn (stV h10 1 v12 v10) fun h13 =>
(veq t6 t6 = true) ∧ (
 thn (padd 7 t3) fun v14 =>
 thn (ld1 h13 v14) fun v15 =>
 Br v15 (
 A39_18 Q t3 t6 h13) (
 A39_16 Q t6 h13))
) : A39_13 Q t3 t6 h := by intro e he; cases he; exact bF L39 (by kernel_rfl) H
theorem b39_14 {h : AH} {Q : Value → AH → Prop} {t3 t6 : Value} (H :
 resv h 11 fun r1 h0 =>
 thn (nilV t6) fun v2 =>
 thn (padd 1 v2) fun v3 =>
 thn (ld1 h0 v3) fun v4 =>
 thn (padd 1 t3) fun v5 =>
 thn (ld1 h0 v5) fun v6 =>
 Cl Pr K 53 [v4, v6] h0 fun v7 h7 => -- donjon/donjonref12.without
 thn (nilV t6) fun v8 =>
 thn (padd 1 v8) fun v9 =>
 thn (stV h7 1 v9 v7) fun h10 =>
(veq t6 t6 = true) ∧ (
 thn (padd 7 t3) fun v11 =>
 thn (ld1 h10 v11) fun v12 =>
 Br v12 (
 A39_18 Q t3 t6 h10) (
 A39_16 Q t6 h10))
) : A39_14 Q t3 t6 h := by intro e he; cases he; exact bF L39 (by kernel_rfl) H
theorem b39_15 {h : AH} {Q : Value → AH → Prop} {t3 t6 : Value} (H :
 thn (nilV t6) fun v0 =>
 thn (padd 15 v0) fun v1 =>
 thn (stV h 1 v1 (.bool true)) fun h2 =>
 thn (padd 5 t3) fun v3 =>
 thn (ldN h2 2 v3) fun v4 =>
 thn (nilV t6) fun v5 =>
 thn (padd 16 v5) fun v6 =>
 thn (stV h2 2 v6 v4) fun h7 =>
 thn (nilV t6) fun v8 =>
 thn (padd 13 v8) fun v9 =>
 thn (ld1 h7 v9) fun v10 =>
 thn (lenS v10) fun v11 =>
 thn (biI .gtr v11 (I 0)) fun v12 =>
 Br v12 (
 Q (.tuple ⟨[(.slice none 0 0), (I 0)]⟩) h7) (
 A39_19 Q t6 h7)
) : A39_15 Q t3 t6 h := by intro e he; cases he; exact bF L39 (by kernel_rfl) H
theorem b39_16 {h : AH} {Q : Value → AH → Prop} {t6 : Value} (H :
 thn (nilV t6) fun v0 =>
 thn (padd 13 v0) fun v1 =>
 thn (ld1 h v1) fun v2 =>
 thn (lenS v2) fun v3 =>
 thn (biI .gtr v3 (I 0)) fun v4 =>
 Br v4 (
 Q (.tuple ⟨[(.slice none 0 0), (I 0)]⟩) h) (
 A39_19 Q t6 h)
) : A39_16 Q t6 h := by intro e he; cases he; exact bF L39 (by kernel_rfl) H
theorem b39_17 {h : AH} {Q : Value → AH → Prop} {t3 t6 : Value} (H :
 resv h 12 fun r1 h0 =>
 thn (nilV t6) fun v2 =>
 thn (padd 1 v2) fun v3 =>
 thn (ld1 h0 v3) fun v4 =>
 thn (padd 1 t3) fun v5 =>
 thn (ld1 h0 v5) fun v6 =>
 thn (fillL [(I 0)] [(0, 1, v6)]) fun l8 =>
 alcSAt h0 (r1 + 7) 1 3 l8 1 1 fun s9 h7 =>
 thn (appV 1 8 3 h7 v4 s9) fun r10 => (fun v11 h12 =>
 thn (nilV t6) fun v13 =>
 thn (padd 1 v13) fun v14 =>
 thn (stV h12 1 v14 v11) fun h15 =>
(veq t6 t6 = true) ∧ (
 thn (padd 7 t3) fun v16 =>
 thn (ld1 h15 v16) fun v17 =>
 Br v17 (
 A39_15 Q t3 t6 h15) (
 A39_16 Q t6 h15))) r10.1 r10.2
) : A39_17 Q t3 t6 h := by intro e he; cases he; exact bF L39 (by kernel_rfl) H
theorem b39_18 {h : AH} {Q : Value → AH → Prop} {t3 t6 : Value} (H :
 thn (padd 5 t3) fun v0 =>
 thn (ldN h 2 v0) fun v1 =>
 thn (nilV t6) fun v2 =>
 thn (padd 18 v2) fun v3 =>
 thn (stV h 2 v3 v1) fun h4 =>
 thn (nilV t6) fun v5 =>
 thn (padd 13 v5) fun v6 =>
 thn (ld1 h4 v6) fun v7 =>
 thn (lenS v7) fun v8 =>
 thn (biI .gtr v8 (I 0)) fun v9 =>
 Br v9 (
 Q (.tuple ⟨[(.slice none 0 0), (I 0)]⟩) h4) (
 A39_19 Q t6 h4)
) : A39_18 Q t3 t6 h := by intro e he; cases he; exact bF L39 (by kernel_rfl) H
theorem b39_19 {h : AH} {Q : Value → AH → Prop} {t6 : Value} (H :
 thn (nilV t6) fun v0 =>
 thn (padd 3 v0) fun v1 =>
 thn (padd 0 v1) fun v2 =>
 thn (ld1 h v2) fun v3 =>
 thn (biI .eql v3 (I 0)) fun v4 =>
 Br v4 (
 A39_20 Q t6 h) (
 Cl Pr K 54 [t6] h fun v5 h5 => -- (*donjon/donjonref12.Line).grant
 Q (.tuple ⟨[v5, (I 0)]⟩) h5)
) : A39_19 Q t6 h := by intro e he; cases he; exact bF L39 (by kernel_rfl) H
theorem b39_20 {h : AH} {Q : Value → AH → Prop} {t6 : Value} (H :
 thn (nilV t6) fun v0 =>
 thn (padd 12 v0) fun v1 =>
 thn (stV h 1 v1 (.bool false)) fun h2 =>
 Q (.tuple ⟨[(.slice none 0 0), (I 0)]⟩) h2
) : A39_20 Q t6 h := by intro e he; cases he; exact bF L39 (by kernel_rfl) H
theorem c39 {h : AH} {Q : Value → AH → Prop} {a0 a1 : Value} (H : A39_0 Q a0 a1 h) : Cl Pr K 39 [a0, a1] h Q :=
  ok_enter (by kernel_rfl) (by kernel_rfl) (Eq.mp (by kernel_rfl) (H (fun i => ([a0, a1] : List Value).getD i undef) rfl))

/-! ### 40 (*donjon/donjonref12.Home).Sweep: params 2, captured 0, results [tmp 4] -/
noncomputable def L40 : List (Option Nat × List Nat) := [(some 0, [0, 1]), (some 3, [0, 1])]
noncomputable def A40_0 (Q : Value → AH → Prop) (t0 t1 : Value) (h : AH) : Prop := Pt Pr K 40 none (retV Pr 40 Q) 35 [0, 1] [.code (cc 40 2), .code (cc 40 3)] [] [t0, t1] h
noncomputable def A40_1 (Q : Value → AH → Prop) (t0 t1 : Value) (h : AH) : Prop := Pt Pr K 40 none (retV Pr 40 Q) 35 [0, 1] [.code (cc 40 14), .code (cc 40 15)] [] [t0, t1] h
theorem b40_0 {h : AH} {Q : Value → AH → Prop} {t0 t1 : Value} (H :
 thn (biI .lss t1 (I 0)) fun v0 =>
 Br v0 (
 Q (I 10) h) (
 thn (nilV t0) fun v1 =>
 thn (padd 1 v1) fun v2 =>
 thn (ld1 h v2) fun v3 =>
 thn (lenS v3) fun v4 =>
 thn (biI .geq t1 v4) fun v5 =>
 Br v5 (
 Q (I 10) h) (
 A40_1 Q t0 t1 h))
) : A40_0 Q t0 t1 h := by intro e he; cases he; exact bF L40 (by kernel_rfl) H
theorem b40_1 {h : AH} {Q : Value → AH → Prop} {t0 t1 : Value} (H :
 resv h 20 fun r1 h0 =>
 thn (nilV t0) fun v2 =>
 thn (padd 1 v2) fun v3 =>
 thn (ld1 h0 v3) fun v4 =>
 thn (nilV t0) fun v5 =>
 thn (padd 1 v5) fun v6 =>
 thn (ld1 h0 v6) fun v7 =>
 thn (idxS 21 v7 t1) fun v8 =>
 thn (padd 2 v8) fun v9 =>
 thn (ld1 h0 v9) fun v10 =>
 thn (fillL [(I 0), (I 0), (I 0), (I 0), (I 0), (I 0), (I 0), (.bool false), (I 0)] [(1, 1, (I (-1))), (2, 1, t1)]) fun c11 =>
 thn (fillL [(I 0), (I 0), (I 0), (I 0), (I 0), (I 0), (I 0), (.bool false), (I 0)] [(0, 9, (.agg ⟨c11⟩))]) fun l13 =>
 alcSAt h0 (r1 + 15) 9 38 l13 1 1 fun s14 h12 =>
 thn (appV 9 72 38 h12 v10 s14) fun r15 => (fun v16 h17 =>
 thn (idxS 21 v4 t1) fun v18 =>
 thn (padd 2 v18) fun v19 =>
 thn (stV h17 1 v19 v16) fun h20 =>
(veq t0 t0 = true) ∧ (
(thn (nilV t0) fun v21 =>
 veq v21 v2 = true) ∧ (
(thn (padd 1 v2) fun v22 =>
 veq v22 v3 = true) ∧ (
(thn (ld1 h17 v3) fun v23 =>
 veq v23 v4 = true) ∧ (
(veq t1 t1 = true) ∧ (
 Q (I 0) h20)))))) r15.1 r15.2
) : A40_1 Q t0 t1 h := by intro e he; cases he; exact bF L40 (by kernel_rfl) H
theorem c40 {h : AH} {Q : Value → AH → Prop} {a0 a1 : Value} (H : A40_0 Q a0 a1 h) : Cl Pr K 40 [a0, a1] h Q :=
  ok_enter (by kernel_rfl) (by kernel_rfl) (Eq.mp (by kernel_rfl) (H (fun i => ([a0, a1] : List Value).getD i undef) rfl))

/-! ### 42 (*donjon/donjonref12.Home).Begin: params 4, captured 0, results [tmp 8, tmp 9] -/
noncomputable def L42 : List (Option Nat × List Nat) := [(some 0, [0, 1, 2, 3]), (some 3, [0, 1, 2, 3]), (some 6, [2, 3, 10]), (some 8, [2, 3, 10]), (some 14, [10, 12]), (some 20, [2, 10, 12]), (some 15, [10, 12]), (some 18, [10, 12]), (some 22, [10, 12]), (some 23, [10, 12]), (some 28, [10, 12]), (some 17, [10, 12]), (some 24, [10]), (some 25, [10]), (some 31, [10, 12])]
noncomputable def A42_0 (Q : Value → AH → Prop) (t0 t1 t2 t3 : Value) (h : AH) : Prop := Pt Pr K 42 none (retV Pr 42 Q) 153 [0, 1, 2, 3] [.code (cc 42 2), .code (cc 42 3)] [] [t0, t1, t2, t3] h
noncomputable def A42_1 (Q : Value → AH → Prop) (t0 t1 t2 t3 : Value) (h : AH) : Prop := Pt Pr K 42 none (retV Pr 42 Q) 153 [0, 1, 2, 3] [.code (cc 42 14), .code (cc 42 15)] [] [t0, t1, t2, t3] h
noncomputable def A42_2 (Q : Value → AH → Prop) (t2 t3 t10 : Value) (h : AH) : Prop := Pt Pr K 42 none (retV Pr 42 Q) 153 [2, 3, 10] [.code (cc 42 124), .code (cc 42 125), .code (cc 42 63)] [] [t2, t3, t10] h
noncomputable def A42_3 (Q : Value → AH → Prop) (t2 t3 t10 : Value) (h : AH) : Prop := Pt Pr K 42 none (retV Pr 42 Q) 153 [2, 3, 10] [.code (cc 42 126), .code (cc 42 127)] [] [t2, t3, t10] h
noncomputable def A42_4 (Q : Value → AH → Prop) (t10 t12 : Value) (h : AH) : Prop := Pt Pr K 42 none (retV Pr 42 Q) 153 [10, 12] [.code (cc 42 65512), .code (cc 42 65513), .code (cc 42 32757), .code (cc 42 4095)] [] [t10, t12] h
noncomputable def A42_5 (Q : Value → AH → Prop) (t2 t10 t12 : Value) (h : AH) : Prop := Pt Pr K 42 none (retV Pr 42 Q) 153 [2, 10, 12] [.code (cc 42 16380), .code (cc 42 16381), .code (cc 42 8191)] [] [t2, t10, t12] h
noncomputable def A42_6 (Q : Value → AH → Prop) (t10 t12 : Value) (h : AH) : Prop := Pt Pr K 42 none (retV Pr 42 Q) 153 [10, 12] [.code (cc 42 262052), .code (cc 42 262053), .code (cc 42 32757), .code (cc 42 4095)] [] [t10, t12] h
noncomputable def A42_7 (Q : Value → AH → Prop) (t10 t12 : Value) (h : AH) : Prop := Pt Pr K 42 none (retV Pr 42 Q) 153 [10, 12] [.code (cc 42 65514), .code (cc 42 65515), .code (cc 42 4095)] [] [t10, t12] h
noncomputable def A42_8 (Q : Value → AH → Prop) (t10 t12 : Value) (h : AH) : Prop := Pt Pr K 42 none (retV Pr 42 Q) 153 [10, 12] [.code (cc 42 32764), .code (cc 42 32765), .code (cc 42 16383)] [] [t10, t12] h
noncomputable def A42_9 (Q : Value → AH → Prop) (t10 t12 : Value) (h : AH) : Prop := Pt Pr K 42 none (retV Pr 42 Q) 153 [10, 12] [.code (cc 42 262120), .code (cc 42 262121), .code (cc 42 131061), .code (cc 42 16383)] [] [t10, t12] h
noncomputable def A42_10 (Q : Value → AH → Prop) (t10 t12 : Value) (h : AH) : Prop := Pt Pr K 42 none (retV Pr 42 Q) 153 [10, 12] [.code (cc 42 32766), .code (cc 42 32767)] [] [t10, t12] h
noncomputable def A42_11 (Q : Value → AH → Prop) (t10 t12 : Value) (h : AH) : Prop := Pt Pr K 42 none (retV Pr 42 Q) 153 [10, 12] [.code (cc 42 1048214), .code (cc 42 32757), .code (cc 42 4095)] [] [t10, t12] h
noncomputable def A42_12 (Q : Value → AH → Prop) (t10 : Value) (h : AH) : Prop := Pt Pr K 42 none (retV Pr 42 Q) 153 [10] [.code (cc 42 524242), .code (cc 42 131061), .code (cc 42 16383)] [] [t10] h
noncomputable def A42_13 (Q : Value → AH → Prop) (t10 : Value) (h : AH) : Prop := Pt Pr K 42 none (retV Pr 42 Q) 153 [10] [.code (cc 42 524244), .code (cc 42 524245), .code (cc 42 262123), .code (cc 42 16383)] [] [t10] h
noncomputable def A42_14 (Q : Value → AH → Prop) (t10 t12 : Value) (h : AH) : Prop := Pt Pr K 42 none (retV Pr 42 Q) 153 [10, 12] [.code (cc 42 262140), .code (cc 42 262141), .code (cc 42 131071)] [] [t10, t12] h
theorem b42_0 {h : AH} {Q : Value → AH → Prop} {t0 t1 t2 t3 : Value} (H :
 thn (biI .lss t1 (I 0)) fun v0 =>
 Br v0 (
 Q (.tuple ⟨[(.slice none 0 0), (I 10)]⟩) h) (
 thn (nilV t0) fun v1 =>
 thn (padd 1 v1) fun v2 =>
 thn (ld1 h v2) fun v3 =>
 thn (lenS v3) fun v4 =>
 thn (biI .geq t1 v4) fun v5 =>
 Br v5 (
 Q (.tuple ⟨[(.slice none 0 0), (I 10)]⟩) h) (
 A42_1 Q t0 t1 t2 t3 h))
) : A42_0 Q t0 t1 t2 t3 h := by intro e he; cases he; exact bF L42 (by kernel_rfl) H
theorem b42_1 {h : AH} {Q : Value → AH → Prop} {t0 t1 t2 t3 : Value} (H :
 thn (nilV t0) fun v0 =>
 thn (padd 1 v0) fun v1 =>
 thn (ld1 h v1) fun v2 =>
 thn (idxS 21 v2 t1) fun v3 =>
 thn (nilV v3) fun v4 =>
 thn (padd 12 v4) fun v5 =>
 thn (ld1 h v5) fun v6 =>
 Br v6 (
 Q (.tuple ⟨[(.slice none 0 0), (I 16)]⟩) h) (
 A42_2 Q t2 t3 v3 h)
) : A42_1 Q t0 t1 t2 t3 h := by intro e he; cases he; exact bF L42 (by kernel_rfl) H
theorem b42_2 {h : AH} {Q : Value → AH → Prop} {t2 t3 t10 : Value} (H :
 thn (nilV t10) fun v0 =>
 thn (padd 2 v0) fun v1 =>
 thn (ld1 h v1) fun v2 =>
 thn (lenS v2) fun v3 =>
 thn (biI .eql v3 (I 0)) fun v4 =>
 Br v4 (
 Q (.tuple ⟨[(.slice none 0 0), (I 12)]⟩) h) (
 A42_3 Q t2 t3 t10 h)
) : A42_2 Q t2 t3 t10 h := by intro e he; cases he; exact bF L42 (by kernel_rfl) H
theorem b42_3 {h : AH} {Q : Value → AH → Prop} {t2 t3 t10 : Value} (H :
 thn (nilV t10) fun v0 =>
 thn (padd 2 v0) fun v1 =>
 thn (ld1 h v1) fun v2 =>
 thn (idxS 9 v2 (I 0)) fun v3 =>
 thn (ldN h 9 v3) fun v4 =>
 thn (nilV t10) fun v5 =>
 thn (padd 3 v5) fun v6 =>
 thn (stV h 9 v6 v4) fun h7 =>
 thn (nilV t10) fun v8 =>
 thn (padd 2 v8) fun v9 =>
 thn (ld1 h7 v9) fun v10 =>
 thn (slS 9 h7 v10 (some (I 1)) none none) fun v11 =>
 thn (appV 9 72 38 h7 (.slice none 0 0) v11) fun r12 => (fun v13 h14 =>
 thn (nilV t10) fun v15 =>
 thn (padd 2 v15) fun v16 =>
 thn (stV h14 1 v16 v13) fun h17 =>
 thn (nilV t10) fun v18 =>
 thn (padd 20 v18) fun v19 =>
 thn (stV h17 1 v19 t3) fun h20 =>
 thn (nilV t10) fun v21 =>
 thn (padd 3 v21) fun v22 =>
 thn (ldN h20 9 v22) fun v23 =>
 alc h20 (.cells [(I 0), (I 0), (I 0), (I 0), (I 0), (I 0), (I 0), (.bool false), (I 0)] 38 (0, 0) true) fun p25 h24 =>
 thn (stV h24 9 (pt p25 0 0) v23) fun h26 =>
 thn (padd 0 (pt p25 0 0)) fun v27 =>
 thn (ld1 h26 v27) fun v28 =>
 thn (biI .eql v28 (I 3)) fun v29 =>
 Br v29 (
 A42_4 Q t10 (pt p25 0 0) h26) (
 A42_5 Q t2 t10 (pt p25 0 0) h26)) r12.1 r12.2
) : A42_3 Q t2 t3 t10 h := by intro e he; cases he; exact bF L42 (by kernel_rfl) H
theorem b42_4 {h : AH} {Q : Value → AH → Prop} {t10 t12 : Value} (H :
 resv h 7 fun r1 h0 =>
 thn (nilV t10) fun v2 =>
 thn (padd 0 v2) fun v3 =>
 thn (ld1 h0 v3) fun v4 =>
 thn (padd 1 t12) fun v5 =>
 thn (ld1 h0 v5) fun v6 =>
 thn (biI .eql v4 v6) fun v7 =>
 Br v7 (
 A42_6 Q t10 t12 h0) (
 A42_7 Q t10 t12 h0)
) : A42_4 Q t10 t12 h := by intro e he; cases he; exact bF L42 (by kernel_rfl) H
theorem b42_5 {h : AH} {Q : Value → AH → Prop} {t2 t10 t12 : Value} (H :
 thn (padd 0 t12) fun v0 =>
 thn (ld1 h v0) fun v1 =>
 thn (biI .neq v1 (I 0)) fun v2 =>
 Br v2 (
 thn (unV .not t2) fun v3 =>
 Br v3 (
 Cl Pr K 55 [t10, (I 9)] h fun v4 h4 => -- (*donjon/donjonref12.Line).note
 thn (fillL [(I 0), (I 0), (I 0), (I 0), (I 0), (I 0), (I 0), (.bool false), (I 0)] [(0, 9, v4)]) fun l6 =>
 alcS h4 9 38 l6 1 1 fun s7 h5 =>
 Q (.tuple ⟨[s7, (I 0)]⟩) h5) (
 A42_8 Q t10 t12 h)) (
 thn (padd 0 t12) fun v3 =>
 thn (ld1 h v3) fun v4 =>
 thn (biI .eql v4 (I 1)) fun v5 =>
 Br v5 (
 A42_9 Q t10 t12 h) (
 A42_10 Q t10 t12 h))
) : A42_5 Q t2 t10 t12 h := by intro e he; cases he; exact bF L42 (by kernel_rfl) H
theorem b42_6 {h : AH} {Q : Value → AH → Prop} {t10 t12 : Value} (H :
 thn (nilV t10) fun v0 =>
 thn (padd 0 v0) fun v1 =>
 thn (stV h 1 v1 (I (-1))) fun h2 =>
 thn (padd 7 t12) fun v3 =>
 thn (ld1 h2 v3) fun v4 =>
 Br v4 (
 A42_11 Q t10 t12 h2) (
 A42_7 Q t10 t12 h2)
) : A42_6 Q t10 t12 h := by intro e he; cases he; exact bF L42 (by kernel_rfl) H
theorem b42_7 {h : AH} {Q : Value → AH → Prop} {t10 t12 : Value} (H :
 resv h 11 fun r1 h0 =>
 thn (nilV t10) fun v2 =>
 thn (padd 1 v2) fun v3 =>
 thn (ld1 h0 v3) fun v4 =>
 thn (padd 1 t12) fun v5 =>
 thn (ld1 h0 v5) fun v6 =>
 Cl Pr K 53 [v4, v6] h0 fun v7 h7 => -- donjon/donjonref12.without
 thn (nilV t10) fun v8 =>
 thn (padd 1 v8) fun v9 =>
 thn (stV h7 1 v9 v7) fun h10 =>
(veq t10 t10 = true) ∧ (
 Cl Pr K 55 [t10, (I 10)] h10 fun v11 h11 => -- (*donjon/donjonref12.Line).note
 thn (fillL [(I 0), (I 0), (I 0), (I 0), (I 0), (I 0), (I 0), (.bool false), (I 0)] [(0, 9, v11)]) fun l13 =>
 alcS h11 9 38 l13 1 1 fun s14 h12 =>
 Q (.tuple ⟨[s14, (I 0)]⟩) h12)
) : A42_7 Q t10 t12 h := by intro e he; cases he; exact bF L42 (by kernel_rfl) H
theorem b42_8 {h : AH} {Q : Value → AH → Prop} {t10 t12 : Value} (H :
 thn (padd 0 t12) fun v0 =>
 thn (ld1 h v0) fun v1 =>
 thn (biI .eql v1 (I 1)) fun v2 =>
 Br v2 (
 A42_9 Q t10 t12 h) (
 A42_10 Q t10 t12 h)
) : A42_8 Q t10 t12 h := by intro e he; cases he; exact bF L42 (by kernel_rfl) H
theorem b42_9 {h : AH} {Q : Value → AH → Prop} {t10 t12 : Value} (H :
 resv h 7 fun r1 h0 =>
 thn (nilV t10) fun v2 =>
 thn (padd 0 v2) fun v3 =>
 thn (ld1 h0 v3) fun v4 =>
 thn (padd 1 t12) fun v5 =>
 thn (ld1 h0 v5) fun v6 =>
 thn (biI .eql v4 v6) fun v7 =>
 Br v7 (
 A42_12 Q t10 h0) (
 A42_13 Q t10 h0)
) : A42_9 Q t10 t12 h := by intro e he; cases he; exact bF L42 (by kernel_rfl) H
theorem b42_10 {h : AH} {Q : Value → AH → Prop} {t10 t12 : Value} (H :
 thn (padd 1 t12) fun v0 =>
 thn (ld1 h v0) fun v1 =>
 Cl Pr K 57 [t10, v1] h fun v2 h2 => -- (*donjon/donjonref12.Line).Holders
 thn (lenS v2) fun v3 =>
 thn (biI .gtr v3 (I 0)) fun v4 =>
 Br v4 (
 Cl Pr K 56 [t10, (I 0), v2] h2 fun v5 h5 => -- (*donjon/donjonref12.Line).probes
 Q (.tuple ⟨[v5, (I 0)]⟩) h5) (
 A42_14 Q t10 t12 h2)
) : A42_10 Q t10 t12 h := by intro e he; cases he; exact bF L42 (by kernel_rfl) H
theorem b42_11 {h : AH} {Q : Value → AH → Prop} {t10 t12 : Value} (H :
 thn (padd 5 t12) fun v0 =>
 thn (ldN h 2 v0) fun v1 =>
 thn (nilV t10) fun v2 =>
 thn (padd 18 v2) fun v3 =>
 thn (stV h 2 v3 v1) fun h4 =>
 resv h4 11 fun r6 h5 =>
 thn (nilV t10) fun v7 =>
 thn (padd 1 v7) fun v8 =>
 thn (ld1 h5 v8) fun v9 =>
 thn (padd 1 t12) fun v10 =>
 thn (ld1 h5 v10) fun v11 =>
 Cl Pr K 53 [v9, v11] h5 fun v12 h12 => -- donjon/donjonref12.without
 thn (nilV t10) fun v13 =>
 thn (padd 1 v13) fun v14 =>
 thn (stV h12 1 v14 v12) fun h15 =>
(veq t10 t10 = true) ∧ (
 Cl Pr K 55 [t10, (I 10)] h15 fun v16 h16 => -- (*donjon/donjonref12.Line).note
 thn (fillL [(I 0), (I 0), (I 0), (I 0), (I 0), (I 0), (I 0), (.bool false), (I 0)] [(0, 9, v16)]) fun l18 =>
 alcS h16 9 38 l18 1 1 fun s19 h17 =>
 Q (.tuple ⟨[s19, (I 0)]⟩) h17)
) : A42_11 Q t10 t12 h := by intro e he; cases he; exact bF L42 (by kernel_rfl) H
theorem b42_12 {h : AH} {Q : Value → AH → Prop} {t10 : Value} (H :
 thn (nilV t10) fun v0 =>
 thn (padd 0 v0) fun v1 =>
 thn (stV h 1 v1 (I (-1))) fun h2 =>
 thn (nilV t10) fun v3 =>
 thn (padd 0 v3) fun v4 =>
 thn (ld1 h2 v4) fun v5 =>
 thn (biI .geq v5 (I 0)) fun v6 =>
 Br v6 (
 thn (nilV t10) fun v7 =>
 thn (padd 0 v7) fun v8 =>
 thn (ld1 h2 v8) fun v9 =>
 thn (fillL [(I 0)] [(0, 1, v9)]) fun l11 =>
 alcS h2 1 3 l11 1 1 fun s12 h10 =>
 Cl Pr K 56 [t10, (I 1), s12] h10 fun v13 h13 => -- (*donjon/donjonref12.Line).probes
 Q (.tuple ⟨[v13, (I 0)]⟩) h13) (
 Cl Pr K 54 [t10] h2 fun v7 h7 => -- (*donjon/donjonref12.Line).grant
 Q (.tuple ⟨[v7, (I 0)]⟩) h7)
) : A42_12 Q t10 h := by intro e he; cases he; exact bF L42 (by kernel_rfl) H
theorem b42_13 {h : AH} {Q : Value → AH → Prop} {t10 : Value} (H :
 thn (nilV t10) fun v0 =>
 thn (padd 0 v0) fun v1 =>
 thn (ld1 h v1) fun v2 =>
 thn (biI .geq v2 (I 0)) fun v3 =>
 Br v3 (
 thn (nilV t10) fun v4 =>
 thn (padd 0 v4) fun v5 =>
 thn (ld1 h v5) fun v6 =>
 thn (fillL [(I 0)] [(0, 1, v6)]) fun l8 =>
 alcS h 1 3 l8 1 1 fun s9 h7 =>
 Cl Pr K 56 [t10, (I 1), s9] h7 fun v10 h10 => -- (*donjon/donjonref12.Line).probes
 Q (.tuple ⟨[v10, (I 0)]⟩) h10) (
 Cl Pr K 54 [t10] h fun v4 h4 => -- (*donjon/donjonref12.Line).grant
 Q (.tuple ⟨[v4, (I 0)]⟩) h4)
) : A42_13 Q t10 h := by intro e he; cases he; exact bF L42 (by kernel_rfl) H
theorem b42_14 {h : AH} {Q : Value → AH → Prop} {t10 t12 : Value} (H :
 thn (padd 0 t12) fun v0 =>
 thn (ld1 h v0) fun v1 =>
 thn (biI .eql v1 (I 0)) fun v2 =>
 Br v2 (
 Q (.tuple ⟨[(.slice none 0 0), (I 0)]⟩) h) (
 Cl Pr K 54 [t10] h fun v3 h3 => -- (*donjon/donjonref12.Line).grant
 Q (.tuple ⟨[v3, (I 0)]⟩) h3)
) : A42_14 Q t10 t12 h := by intro e he; cases he; exact bF L42 (by kernel_rfl) H
theorem c42 {h : AH} {Q : Value → AH → Prop} {a0 a1 a2 a3 : Value} (H : A42_0 Q a0 a1 a2 a3 h) : Cl Pr K 42 [a0, a1, a2, a3] h Q :=
  ok_enter (by kernel_rfl) (by kernel_rfl) (Eq.mp (by kernel_rfl) (H (fun i => ([a0, a1, a2, a3] : List Value).getD i undef) rfl))

/-! ### 44 (*donjon/donjonref12.Home).Sharers: params 2, captured 0, results [tmp 4] -/
noncomputable def L44 : List (Option Nat × List Nat) := [(some 0, [0, 1]), (some 3, [0, 1, 5, 6]), (some 5, [0, 1, 5, 6]), (some 6, [0, 1, 5, 6]), (some 4, [0, 1, 5, 6])]
noncomputable def A44_0 (Q : Value → AH → Prop) (t0 t1 : Value) (h : AH) : Prop := Pt Pr K 44 none (retV Pr 44 Q) 26 [0, 1] [.code (cc 44 2), .code (cc 44 3)] [] [t0, t1] h
noncomputable def A44_1 (Q : Value → AH → Prop) (t0 t1 t5 t6 : Value) (h : AH) : Prop := Pt Pr K 44 none (retV Pr 44 Q) 26 [0, 1, 5, 6] [.code (cc 44 464), .code (cc 44 465), .code (cc 44 233), .inLoop (cc 44 116), .inBlock 0, .code (cc 44 15)] [] [t0, t1, t5, t6] h
noncomputable def A44_2 (Q : Value → AH → Prop) (t0 t1 t5 t6 : Value) (h : AH) : Prop := Pt Pr K 44 none (retV Pr 44 Q) 26 [0, 1, 5, 6] [.code (cc 44 1864), .code (cc 44 1865), .inBlock 1, .code (cc 44 467), .inLoop (cc 44 116), .inBlock 0, .code (cc 44 15)] [] [t0, t1, t5, t6] h
noncomputable def A44_3 (Q : Value → AH → Prop) (t0 t1 t5 t6 : Value) (h : AH) : Prop := Pt Pr K 44 none (retV Pr 44 Q) 26 [0, 1, 5, 6] [.code (cc 44 3730), .inBlock 1, .code (cc 44 467), .inLoop (cc 44 116), .inBlock 0, .code (cc 44 15)] [] [t0, t1, t5, t6] h
noncomputable def A44_4 (Q : Value → AH → Prop) (t0 t1 t5 t6 : Value) (h : AH) : Prop := Pt Pr K 44 none (retV Pr 44 Q) 26 [0, 1, 5, 6] [.code (cc 44 467), .inLoop (cc 44 116), .inBlock 0, .code (cc 44 15)] [] [t0, t1, t5, t6] h
theorem b44_0 {h : AH} {Q : Value → AH → Prop} {t0 t1 : Value} (H :
 A44_1 Q t0 t1 (.slice none 0 0) (I 0) h
) : A44_0 Q t0 t1 h := by intro e he; cases he; exact bF L44 (by kernel_rfl) H
theorem b44_1 {h : AH} {Q : Value → AH → Prop} {t0 t1 t5 t6 : Value} (H :
 thn (biI .lss t6 (I 4)) fun v0 =>
 Br v0 (
 A44_2 Q t0 t1 t5 t6 h) (
 Q t5 h)
) : A44_1 Q t0 t1 t5 t6 h := by intro e he; cases he; exact bF L44 (by kernel_rfl) H
theorem b44_2 {h : AH} {Q : Value → AH → Prop} {t0 t1 t5 t6 : Value} (H :
 thn (nilV t0) fun v0 =>
 thn (padd 1 v0) fun v1 =>
 thn (ld1 h v1) fun v2 =>
 thn (idxS 21 v2 t1) fun v3 =>
 thn (padd 1 v3) fun v4 =>
 thn (ld1 h v4) fun v5 =>
 Cl Pr K 52 [v5, t6] h fun v6 h6 => -- donjon/donjonref12.in
 Br v6 (
 A44_3 Q t0 t1 t5 t6 h6) (
 A44_4 Q t0 t1 t5 t6 h6)
) : A44_2 Q t0 t1 t5 t6 h := by intro e he; cases he; exact bF L44 (by kernel_rfl) H
theorem b44_3 {h : AH} {Q : Value → AH → Prop} {t0 t1 t5 t6 : Value} (H :
 thn (fillL [(I 0)] [(0, 1, t6)]) fun l1 =>
 alcS h 1 3 l1 1 1 fun s2 h0 =>
 thn (appV 1 8 3 h0 t5 s2) fun r3 => (fun v4 h5 =>
 thn (biI .add t6 (I 1)) fun v6 =>
 A44_1 Q t0 t1 v4 v6 h5) r3.1 r3.2
) : A44_3 Q t0 t1 t5 t6 h := by intro e he; cases he; exact bF L44 (by kernel_rfl) H
theorem b44_4 {h : AH} {Q : Value → AH → Prop} {t0 t1 t5 t6 : Value} (H :
 thn (biI .add t6 (I 1)) fun v0 =>
 A44_1 Q t0 t1 t5 v0 h
) : A44_4 Q t0 t1 t5 t6 h := by intro e he; cases he; exact bF L44 (by kernel_rfl) H
theorem c44 {h : AH} {Q : Value → AH → Prop} {a0 a1 : Value} (H : A44_0 Q a0 a1 h) : Cl Pr K 44 [a0, a1] h Q :=
  ok_enter (by kernel_rfl) (by kernel_rfl) (Eq.mp (by kernel_rfl) (H (fun i => ([a0, a1] : List Value).getD i undef) rfl))

/-! ### 45 (*donjon/donjonref12.Home).Sweeps: params 2, captured 0, results [tmp 4] -/
noncomputable def L45 : List (Option Nat × List Nat) := [(some 0, [0, 1]), (some 4, [5, 6, 7]), (some 6, [5, 6, 7]), (some 8, [5, 6]), (some 7, [5, 6, 7]), (some 5, [5, 6, 7]), (some 9, [5])]
noncomputable def A45_0 (Q : Value → AH → Prop) (t0 t1 : Value) (h : AH) : Prop := Pt Pr K 45 none (retV Pr 45 Q) 49 [0, 1] [.code (cc 45 2), .code (cc 45 3)] [] [t0, t1] h
noncomputable def A45_1 (Q : Value → AH → Prop) (t5 t6 t7 : Value) (h : AH) : Prop := Pt Pr K 45 none (retV Pr 45 Q) 49 [5, 6, 7] [.code (cc 45 976), .code (cc 45 977), .code (cc 45 489), .inLoop (cc 45 244), .inBlock 0, .code (cc 45 31)] [] [t5, t6, t7] h
noncomputable def A45_2 (Q : Value → AH → Prop) (t5 t6 t7 : Value) (h : AH) : Prop := Pt Pr K 45 none (retV Pr 45 Q) 49 [5, 6, 7] [.code (cc 45 3912), .code (cc 45 3913), .inBlock 1, .code (cc 45 979), .inLoop (cc 45 244), .inBlock 0, .code (cc 45 31)] [] [t5, t6, t7] h
noncomputable def A45_3 (Q : Value → AH → Prop) (t5 t6 : Value) (h : AH) : Prop := Pt Pr K 45 none (retV Pr 45 Q) 49 [5, 6] [.code (cc 45 124), .code (cc 45 125), .code (cc 45 63)] [] [t5, t6] h
noncomputable def A45_4 (Q : Value → AH → Prop) (t5 t6 t7 : Value) (h : AH) : Prop := Pt Pr K 45 none (retV Pr 45 Q) 49 [5, 6, 7] [.code (cc 45 7826), .inBlock 1, .code (cc 45 979), .inLoop (cc 45 244), .inBlock 0, .code (cc 45 31)] [] [t5, t6, t7] h
noncomputable def A45_5 (Q : Value → AH → Prop) (t5 t6 t7 : Value) (h : AH) : Prop := Pt Pr K 45 none (retV Pr 45 Q) 49 [5, 6, 7] [.code (cc 45 979), .inLoop (cc 45 244), .inBlock 0, .code (cc 45 31)] [] [t5, t6, t7] h
noncomputable def A45_6 (Q : Value → AH → Prop) (t5 : Value) (h : AH) : Prop := Pt Pr K 45 none (retV Pr 45 Q) 49 [5] [.code (cc 45 250), .code (cc 45 63)] [] [t5] h
theorem b45_0 {h : AH} {Q : Value → AH → Prop} {t0 t1 : Value} (H :
 thn (nilV t0) fun v0 =>
 thn (padd 1 v0) fun v1 =>
 thn (ld1 h v1) fun v2 =>
 thn (idxS 21 v2 t1) fun v3 =>
 A45_1 Q (I 0) v3 (I 0) h
) : A45_0 Q t0 t1 h := by intro e he; cases he; exact bF L45 (by kernel_rfl) H
theorem b45_1 {h : AH} {Q : Value → AH → Prop} {t5 t6 t7 : Value} (H :
 thn (nilV t6) fun v0 =>
 thn (padd 2 v0) fun v1 =>
 thn (ld1 h v1) fun v2 =>
 thn (lenS v2) fun v3 =>
 thn (biI .lss t7 v3) fun v4 =>
 Br v4 (
 A45_2 Q t5 t6 t7 h) (
 A45_3 Q t5 t6 h)
) : A45_1 Q t5 t6 t7 h := by intro e he; cases he; exact bF L45 (by kernel_rfl) H
theorem b45_2 {h : AH} {Q : Value → AH → Prop} {t5 t6 t7 : Value} (H :
 thn (nilV t6) fun v0 =>
 thn (padd 2 v0) fun v1 =>
 thn (ld1 h v1) fun v2 =>
 thn (idxS 9 v2 t7) fun v3 =>
 thn (padd 0 v3) fun v4 =>
 thn (ld1 h v4) fun v5 =>
 thn (biI .eql v5 (I 0)) fun v6 =>
 Br v6 (
 A45_4 Q t5 t6 t7 h) (
 A45_5 Q t5 t6 t7 h)
) : A45_2 Q t5 t6 t7 h := by intro e he; cases he; exact bF L45 (by kernel_rfl) H
theorem b45_3 {h : AH} {Q : Value → AH → Prop} {t5 t6 : Value} (H :
 thn (nilV t6) fun v0 =>
 thn (padd 12 v0) fun v1 =>
 thn (ld1 h v1) fun v2 =>
 Br v2 (
 thn (nilV t6) fun v3 =>
 thn (padd 3 v3) fun v4 =>
 thn (padd 0 v4) fun v5 =>
 thn (ld1 h v5) fun v6 =>
 thn (biI .eql v6 (I 0)) fun v7 =>
 Br v7 (
 A45_6 Q t5 h) (
 Q t5 h)) (
 Q t5 h)
) : A45_3 Q t5 t6 h := by intro e he; cases he; exact bF L45 (by kernel_rfl) H
theorem b45_4 {h : AH} {Q : Value → AH → Prop} {t5 t6 t7 : Value} (H :
 thn (biI .add t5 (I 1)) fun v0 =>
 thn (biI .add t7 (I 1)) fun v1 =>
 A45_1 Q v0 t6 v1 h
) : A45_4 Q t5 t6 t7 h := by intro e he; cases he; exact bF L45 (by kernel_rfl) H
theorem b45_5 {h : AH} {Q : Value → AH → Prop} {t5 t6 t7 : Value} (H :
 thn (biI .add t7 (I 1)) fun v0 =>
 A45_1 Q t5 t6 v0 h
) : A45_5 Q t5 t6 t7 h := by intro e he; cases he; exact bF L45 (by kernel_rfl) H
theorem b45_6 {h : AH} {Q : Value → AH → Prop} {t5 : Value} (H :
 thn (biI .add t5 (I 1)) fun v0 =>
 Q v0 h
) : A45_6 Q t5 h := by intro e he; cases he; exact bF L45 (by kernel_rfl) H
theorem c45 {h : AH} {Q : Value → AH → Prop} {a0 a1 : Value} (H : A45_0 Q a0 a1 h) : Cl Pr K 45 [a0, a1] h Q :=
  ok_enter (by kernel_rfl) (by kernel_rfl) (Eq.mp (by kernel_rfl) (H (fun i => ([a0, a1] : List Value).getD i undef) rfl))

/-! ### 52 donjon/donjonref12.in: params 2, captured 0, results [tmp 4] -/
noncomputable def L52 : List (Option Nat × List Nat) := [(some 0, [0, 1]), (some 2, [0, 1, 5]), (some 4, [0, 1, 5]), (some 3, [0, 1, 5])]
noncomputable def A52_0 (Q : Value → AH → Prop) (t0 t1 : Value) (h : AH) : Prop := Pt Pr K 52 none (retV Pr 52 Q) 18 [0, 1] [.code (cc 52 2), .code (cc 52 3)] [] [t0, t1] h
noncomputable def A52_1 (Q : Value → AH → Prop) (t0 t1 t5 : Value) (h : AH) : Prop := Pt Pr K 52 none (retV Pr 52 Q) 18 [0, 1, 5] [.code (cc 52 208), .code (cc 52 209), .code (cc 52 105), .inLoop (cc 52 52), .inBlock 0, .code (cc 52 7)] [] [t0, t1, t5] h
noncomputable def A52_2 (Q : Value → AH → Prop) (t0 t1 t5 : Value) (h : AH) : Prop := Pt Pr K 52 none (retV Pr 52 Q) 18 [0, 1, 5] [.code (cc 52 840), .code (cc 52 841), .inBlock 1, .code (cc 52 211), .inLoop (cc 52 52), .inBlock 0, .code (cc 52 7)] [] [t0, t1, t5] h
noncomputable def A52_3 (Q : Value → AH → Prop) (t0 t1 t5 : Value) (h : AH) : Prop := Pt Pr K 52 none (retV Pr 52 Q) 18 [0, 1, 5] [.code (cc 52 211), .inLoop (cc 52 52), .inBlock 0, .code (cc 52 7)] [] [t0, t1, t5] h
theorem b52_0 {h : AH} {Q : Value → AH → Prop} {t0 t1 : Value} (H :
 A52_1 Q t0 t1 (I 0) h
) : A52_0 Q t0 t1 h := by intro e he; cases he; exact bF L52 (by kernel_rfl) H
theorem b52_1 {h : AH} {Q : Value → AH → Prop} {t0 t1 t5 : Value} (H :
 thn (lenS t0) fun v0 =>
 thn (biI .lss t5 v0) fun v1 =>
 Br v1 (
 A52_2 Q t0 t1 t5 h) (
 Q (.bool false) h)
) : A52_1 Q t0 t1 t5 h := by intro e he; cases he; exact bF L52 (by kernel_rfl) H
theorem b52_2 {h : AH} {Q : Value → AH → Prop} {t0 t1 t5 : Value} (H :
 thn (idxS 1 t0 t5) fun v0 =>
 thn (ld1 h v0) fun v1 =>
 thn (biI .eql v1 t1) fun v2 =>
 Br v2 (
 Q (.bool true) h) (
 A52_3 Q t0 t1 t5 h)
) : A52_2 Q t0 t1 t5 h := by intro e he; cases he; exact bF L52 (by kernel_rfl) H
theorem b52_3 {h : AH} {Q : Value → AH → Prop} {t0 t1 t5 : Value} (H :
 thn (biI .add t5 (I 1)) fun v0 =>
 A52_1 Q t0 t1 v0 h
) : A52_3 Q t0 t1 t5 h := by intro e he; cases he; exact bF L52 (by kernel_rfl) H
theorem c52 {h : AH} {Q : Value → AH → Prop} {a0 a1 : Value} (H : A52_0 Q a0 a1 h) : Cl Pr K 52 [a0, a1] h Q :=
  ok_enter (by kernel_rfl) (by kernel_rfl) (Eq.mp (by kernel_rfl) (H (fun i => ([a0, a1] : List Value).getD i undef) rfl))

/-! ### 53 donjon/donjonref12.without: params 2, captured 0, results [tmp 4] -/
noncomputable def L53 : List (Option Nat × List Nat) := [(some 0, [0, 1]), (some 3, [0, 1, 5, 6]), (some 5, [0, 1, 5, 6]), (some 6, [0, 1, 5, 6]), (some 4, [0, 1, 5, 6])]
noncomputable def A53_0 (Q : Value → AH → Prop) (t0 t1 : Value) (h : AH) : Prop := Pt Pr K 53 none (retV Pr 53 Q) 27 [0, 1] [.code (cc 53 2), .code (cc 53 3)] [] [t0, t1] h
noncomputable def A53_1 (Q : Value → AH → Prop) (t0 t1 t5 t6 : Value) (h : AH) : Prop := Pt Pr K 53 none (retV Pr 53 Q) 27 [0, 1, 5, 6] [.code (cc 53 464), .code (cc 53 465), .code (cc 53 233), .inLoop (cc 53 116), .inBlock 0, .code (cc 53 15)] [] [t0, t1, t5, t6] h
noncomputable def A53_2 (Q : Value → AH → Prop) (t0 t1 t5 t6 : Value) (h : AH) : Prop := Pt Pr K 53 none (retV Pr 53 Q) 27 [0, 1, 5, 6] [.code (cc 53 1864), .code (cc 53 1865), .inBlock 1, .code (cc 53 467), .inLoop (cc 53 116), .inBlock 0, .code (cc 53 15)] [] [t0, t1, t5, t6] h
noncomputable def A53_3 (Q : Value → AH → Prop) (t0 t1 t5 t6 : Value) (h : AH) : Prop := Pt Pr K 53 none (retV Pr 53 Q) 27 [0, 1, 5, 6] [.code (cc 53 3730), .inBlock 1, .code (cc 53 467), .inLoop (cc 53 116), .inBlock 0, .code (cc 53 15)] [] [t0, t1, t5, t6] h
noncomputable def A53_4 (Q : Value → AH → Prop) (t0 t1 t5 t6 : Value) (h : AH) : Prop := Pt Pr K 53 none (retV Pr 53 Q) 27 [0, 1, 5, 6] [.code (cc 53 467), .inLoop (cc 53 116), .inBlock 0, .code (cc 53 15)] [] [t0, t1, t5, t6] h
theorem b53_0 {h : AH} {Q : Value → AH → Prop} {t0 t1 : Value} (H :
 A53_1 Q t0 t1 (.slice none 0 0) (I 0) h
) : A53_0 Q t0 t1 h := by intro e he; cases he; exact bF L53 (by kernel_rfl) H
theorem b53_1 {h : AH} {Q : Value → AH → Prop} {t0 t1 t5 t6 : Value} (H :
 thn (lenS t0) fun v0 =>
 thn (biI .lss t6 v0) fun v1 =>
 Br v1 (
 A53_2 Q t0 t1 t5 t6 h) (
 Q t5 h)
) : A53_1 Q t0 t1 t5 t6 h := by intro e he; cases he; exact bF L53 (by kernel_rfl) H
theorem b53_2 {h : AH} {Q : Value → AH → Prop} {t0 t1 t5 t6 : Value} (H :
 thn (idxS 1 t0 t6) fun v0 =>
 thn (ld1 h v0) fun v1 =>
 thn (biI .neq v1 t1) fun v2 =>
 Br v2 (
 A53_3 Q t0 t1 t5 t6 h) (
 A53_4 Q t0 t1 t5 t6 h)
) : A53_2 Q t0 t1 t5 t6 h := by intro e he; cases he; exact bF L53 (by kernel_rfl) H
theorem b53_3 {h : AH} {Q : Value → AH → Prop} {t0 t1 t5 t6 : Value} (H :
 thn (idxS 1 t0 t6) fun v0 =>
 thn (ld1 h v0) fun v1 =>
 thn (fillL [(I 0)] [(0, 1, v1)]) fun l3 =>
 alcS h 1 3 l3 1 1 fun s4 h2 =>
 thn (appV 1 8 3 h2 t5 s4) fun r5 => (fun v6 h7 =>
 thn (biI .add t6 (I 1)) fun v8 =>
 A53_1 Q t0 t1 v6 v8 h7) r5.1 r5.2
) : A53_3 Q t0 t1 t5 t6 h := by intro e he; cases he; exact bF L53 (by kernel_rfl) H
theorem b53_4 {h : AH} {Q : Value → AH → Prop} {t0 t1 t5 t6 : Value} (H :
 thn (biI .add t6 (I 1)) fun v0 =>
 A53_1 Q t0 t1 t5 v0 h
) : A53_4 Q t0 t1 t5 t6 h := by intro e he; cases he; exact bF L53 (by kernel_rfl) H
theorem c53 {h : AH} {Q : Value → AH → Prop} {a0 a1 : Value} (H : A53_0 Q a0 a1 h) : Cl Pr K 53 [a0, a1] h Q :=
  ok_enter (by kernel_rfl) (by kernel_rfl) (Eq.mp (by kernel_rfl) (H (fun i => ([a0, a1] : List Value).getD i undef) rfl))

/-! ### 54 (*donjon/donjonref12.Line).grant: params 1, captured 0, results [tmp 2] -/
noncomputable def L54 : List (Option Nat × List Nat) := [(some 0, [0]), (some 5, [0, 3]), (some 6, [0, 3]), (some 8, [0, 3]), (some 11, [0, 3]), (some 10, [0, 3]), (some 12, [0, 3]), (some 13, [0, 3])]
noncomputable def A54_0 (Q : Value → AH → Prop) (t0 : Value) (h : AH) : Prop := Pt Pr K 54 none (retV Pr 54 Q) 76 [0] [.code (cc 54 2), .code (cc 54 3)] [] [t0] h
noncomputable def A54_1 (Q : Value → AH → Prop) (t0 t3 : Value) (h : AH) : Prop := Pt Pr K 54 none (retV Pr 54 Q) 76 [0, 3] [.code (cc 54 250), .code (cc 54 63)] [] [t0, t3] h
noncomputable def A54_2 (Q : Value → AH → Prop) (t0 t3 : Value) (h : AH) : Prop := Pt Pr K 54 none (retV Pr 54 Q) 76 [0, 3] [.code (cc 54 126), .code (cc 54 127)] [] [t0, t3] h
noncomputable def A54_3 (Q : Value → AH → Prop) (t0 t3 : Value) (h : AH) : Prop := Pt Pr K 54 none (retV Pr 54 Q) 76 [0, 3] [.code (cc 54 2036), .code (cc 54 2037), .code (cc 54 255)] [] [t0, t3] h
noncomputable def A54_4 (Q : Value → AH → Prop) (t0 t3 : Value) (h : AH) : Prop := Pt Pr K 54 none (retV Pr 54 Q) 76 [0, 3] [.code (cc 54 1020), .code (cc 54 1021), .code (cc 54 511)] [] [t0, t3] h
noncomputable def A54_5 (Q : Value → AH → Prop) (t0 t3 : Value) (h : AH) : Prop := Pt Pr K 54 none (retV Pr 54 Q) 76 [0, 3] [.code (cc 54 8150), .code (cc 54 255)] [] [t0, t3] h
noncomputable def A54_6 (Q : Value → AH → Prop) (t0 t3 : Value) (h : AH) : Prop := Pt Pr K 54 none (retV Pr 54 Q) 76 [0, 3] [.code (cc 54 2042), .code (cc 54 511)] [] [t0, t3] h
noncomputable def A54_7 (Q : Value → AH → Prop) (t0 t3 : Value) (h : AH) : Prop := Pt Pr K 54 none (retV Pr 54 Q) 76 [0, 3] [.code (cc 54 4086), .code (cc 54 4087), .code (cc 54 511)] [] [t0, t3] h
theorem b54_0 {h : AH} {Q : Value → AH → Prop} {t0 : Value} (H :
 Cl Pr K 55 [t0, (I 8)] h fun v0 h0 => -- (*donjon/donjonref12.Line).note
 alc h0 (.cells [(I 0), (I 0), (I 0), (I 0), (I 0), (I 0), (I 0), (.bool false), (I 0)] 38 (0, 0) true) fun p2 h1 =>
 thn (stV h1 9 (pt p2 0 0) v0) fun h3 =>
 thn (nilV t0) fun v4 =>
 thn (padd 20 v4) fun v5 =>
 thn (ld1 h3 v5) fun v6 =>
 thn (padd 3 (pt p2 0 0)) fun v7 =>
 thn (stV h3 1 v7 v6) fun h8 =>
 thn (nilV t0) fun v9 =>
 thn (padd 18 v9) fun v10 =>
 thn (ldN h8 2 v10) fun v11 =>
 thn (padd 5 (pt p2 0 0)) fun v12 =>
 thn (stV h8 2 v12 v11) fun h13 =>
 thn (nilV t0) fun v14 =>
 thn (padd 15 v14) fun v15 =>
 thn (ld1 h13 v15) fun v16 =>
 Br v16 (
 A54_1 Q t0 (pt p2 0 0) h13) (
 A54_2 Q t0 (pt p2 0 0) h13)
) : A54_0 Q t0 h := by intro e he; cases he; exact bF L54 (by kernel_rfl) H
theorem b54_1 {h : AH} {Q : Value → AH → Prop} {t0 t3 : Value} (H :
 thn (nilV t0) fun v0 =>
 thn (padd 16 v0) fun v1 =>
 thn (ldN h 2 v1) fun v2 =>
 thn (padd 5 t3) fun v3 =>
 thn (stV h 2 v3 v2) fun h4 =>
 thn (padd 4 t3) fun v5 =>
 thn (stV h4 1 v5 (I 4)) fun h6 =>
 thn (nilV t0) fun v7 =>
 thn (padd 3 v7) fun v8 =>
 thn (padd 0 v8) fun v9 =>
 thn (ld1 h6 v9) fun v10 =>
 thn (biI .eql v10 (I 1)) fun v11 =>
 Br v11 (
 A54_3 Q t0 t3 h6) (
 A54_4 Q t0 t3 h6)
) : A54_1 Q t0 t3 h := by intro e he; cases he; exact bF L54 (by kernel_rfl) H
theorem b54_2 {h : AH} {Q : Value → AH → Prop} {t0 t3 : Value} (H :
 thn (padd 4 t3) fun v0 =>
 thn (stV h 1 v0 (I 4)) fun h1 =>
 thn (nilV t0) fun v2 =>
 thn (padd 3 v2) fun v3 =>
 thn (padd 0 v3) fun v4 =>
 thn (ld1 h1 v4) fun v5 =>
 thn (biI .eql v5 (I 1)) fun v6 =>
 Br v6 (
 A54_3 Q t0 t3 h1) (
 A54_4 Q t0 t3 h1)
) : A54_2 Q t0 t3 h := by intro e he; cases he; exact bF L54 (by kernel_rfl) H
theorem b54_3 {h : AH} {Q : Value → AH → Prop} {t0 t3 : Value} (H :
 thn (padd 4 t3) fun v0 =>
 thn (stV h 1 v0 (I 2)) fun h1 =>
 thn (padd 1 t3) fun v2 =>
 thn (ld1 h1 v2) fun v3 =>
 Cl Pr K 57 [t0, v3] h1 fun v4 h4 => -- (*donjon/donjonref12.Line).Holders
 thn (lenS v4) fun v5 =>
 thn (biI .gtr v5 (I 0)) fun v6 =>
 Br v6 (
 A54_5 Q t0 t3 h4) (
 A54_4 Q t0 t3 h4)
) : A54_3 Q t0 t3 h := by intro e he; cases he; exact bF L54 (by kernel_rfl) H
theorem b54_4 {h : AH} {Q : Value → AH → Prop} {t0 t3 : Value} (H :
 thn (padd 4 t3) fun v0 =>
 thn (ld1 h v0) fun v1 =>
 thn (biI .eql v1 (I 1)) fun v2 =>
 Br v2 (
 A54_6 Q t0 t3 h) (
 A54_7 Q t0 t3 h)
) : A54_4 Q t0 t3 h := by intro e he; cases he; exact bF L54 (by kernel_rfl) H
theorem b54_5 {h : AH} {Q : Value → AH → Prop} {t0 t3 : Value} (H :
 thn (padd 4 t3) fun v0 =>
 thn (stV h 1 v0 (I 1)) fun h1 =>
 thn (padd 4 t3) fun v2 =>
 thn (ld1 h1 v2) fun v3 =>
 thn (biI .eql v3 (I 1)) fun v4 =>
 Br v4 (
 A54_6 Q t0 t3 h1) (
 A54_7 Q t0 t3 h1)
) : A54_5 Q t0 t3 h := by intro e he; cases he; exact bF L54 (by kernel_rfl) H
theorem b54_6 {h : AH} {Q : Value → AH → Prop} {t0 t3 : Value} (H :
 resv h 15 fun r1 h0 =>
 thn (nilV t0) fun v2 =>
 thn (padd 1 v2) fun v3 =>
 thn (ld1 h0 v3) fun v4 =>
 thn (padd 1 t3) fun v5 =>
 thn (ld1 h0 v5) fun v6 =>
 Cl Pr K 53 [v4, v6] h0 fun v7 h7 => -- donjon/donjonref12.without
 thn (padd 1 t3) fun v8 =>
 thn (ld1 h7 v8) fun v9 =>
 thn (fillL [(I 0)] [(0, 1, v9)]) fun l11 =>
 alcSAt h7 (r1 + 10) 1 3 l11 1 1 fun s12 h10 =>
 thn (appV 1 8 3 h10 v7 s12) fun r13 => (fun v14 h15 =>
 thn (nilV t0) fun v16 =>
 thn (padd 1 v16) fun v17 =>
 thn (stV h15 1 v17 v14) fun h18 =>
(veq t0 t0 = true) ∧ (
(veq t0 t0 = true) ∧ (
(thn (padd 1 t3) fun v19 =>
 veq v19 v8 = true) ∧ (
(thn (ld1 h0 v8) fun v20 =>
 veq v20 v9 = true) ∧ (
 thn (nilV t0) fun v21 =>
 thn (padd 12 v21) fun v22 =>
 thn (stV h18 1 v22 (.bool true)) fun h23 =>
 thn (nilV t0) fun v24 =>
 thn (padd 14 v24) fun v25 =>
 thn (stV h23 1 v25 (.bool true)) fun h26 =>
 thn (nilV t0) fun v27 =>
 thn (padd 15 v27) fun v28 =>
 thn (stV h26 1 v28 (.bool false)) fun h29 =>
 thn (ldN h29 9 t3) fun v30 =>
 thn (fillL [(I 0), (I 0), (I 0), (I 0), (I 0), (I 0), (I 0), (.bool false), (I 0)] [(0, 9, v30)]) fun l32 =>
 alcS h29 9 38 l32 1 1 fun s33 h31 =>
 Q s33 h31))))) r13.1 r13.2
) : A54_6 Q t0 t3 h := by intro e he; cases he; exact bF L54 (by kernel_rfl) H
theorem b54_7 {h : AH} {Q : Value → AH → Prop} {t0 t3 : Value} (H :
 thn (padd 1 t3) fun v0 =>
 thn (ld1 h v0) fun v1 =>
 thn (nilV t0) fun v2 =>
 thn (padd 0 v2) fun v3 =>
 thn (stV h 1 v3 v1) fun h4 =>
 thn (nilV t0) fun v5 =>
 thn (padd 1 v5) fun v6 =>
 thn (stV h4 1 v6 (.slice none 0 0)) fun h7 =>
 thn (nilV t0) fun v8 =>
 thn (padd 12 v8) fun v9 =>
 thn (stV h7 1 v9 (.bool true)) fun h10 =>
 thn (nilV t0) fun v11 =>
 thn (padd 14 v11) fun v12 =>
 thn (stV h10 1 v12 (.bool true)) fun h13 =>
 thn (nilV t0) fun v14 =>
 thn (padd 15 v14) fun v15 =>
 thn (stV h13 1 v15 (.bool false)) fun h16 =>
 thn (ldN h16 9 t3) fun v17 =>
 thn (fillL [(I 0), (I 0), (I 0), (I 0), (I 0), (I 0), (I 0), (.bool false), (I 0)] [(0, 9, v17)]) fun l19 =>
 alcS h16 9 38 l19 1 1 fun s20 h18 =>
 Q s20 h18
) : A54_7 Q t0 t3 h := by intro e he; cases he; exact bF L54 (by kernel_rfl) H
theorem c54 {h : AH} {Q : Value → AH → Prop} {a0 : Value} (H : A54_0 Q a0 h) : Cl Pr K 54 [a0] h Q :=
  ok_enter (by kernel_rfl) (by kernel_rfl) (Eq.mp (by kernel_rfl) (H (fun i => ([a0] : List Value).getD i undef) rfl))

/-! ### 55 (*donjon/donjonref12.Line).note: params 2, captured 0, results [cell 4 : 38] -/
noncomputable def L55 : List (Option Nat × List Nat) := [(some 0, [0, 1])]
noncomputable def A55_0 (Q : Value → AH → Prop) (t0 t1 : Value) (h : AH) : Prop := Pt Pr K 55 none (retV Pr 55 Q) 17 [0, 1] [.code (cc 55 2), .code (cc 55 3)] [] [t0, t1] h
theorem b55_0 {h : AH} {Q : Value → AH → Prop} {t0 t1 : Value} (H :
 alc h (.cells [(I 0), (I 0), (I 0), (I 0), (I 0), (I 0), (I 0), (.bool false), (I 0)] 38 (0, 0) true) fun p1 h0 =>
 resv h0 13 fun r3 h2 =>
 thn (nilV t0) fun v4 =>
 thn (padd 3 v4) fun v5 =>
 thn (padd 1 v5) fun v6 =>
 thn (ld1 h2 v6) fun v7 =>
 thn (nilV t0) fun v8 =>
 thn (padd 3 v8) fun v9 =>
 thn (padd 2 v9) fun v10 =>
 thn (ld1 h2 v10) fun v11 =>
 thn (fillL [(I 0), (I 0), (I 0), (I 0), (I 0), (I 0), (I 0), (.bool false), (I 0)] [(0, 1, t1), (1, 1, v7), (2, 1, v11)]) fun c12 =>
 thn (stV h2 9 (pt p1 0 0) (.agg ⟨c12⟩)) fun h13 =>
 thn (ldN h13 9 (pt p1 0 0)) fun v14 =>
 Q v14 h13
) : A55_0 Q t0 t1 h := by intro e he; cases he; exact bF L55 (by kernel_rfl) H
theorem c55 {h : AH} {Q : Value → AH → Prop} {a0 a1 : Value} (H : A55_0 Q a0 a1 h) : Cl Pr K 55 [a0, a1] h Q :=
  ok_enter (by kernel_rfl) (by kernel_rfl) (Eq.mp (by kernel_rfl) (H (fun i => ([a0, a1] : List Value).getD i undef) rfl))

/-! ### 56 (*donjon/donjonref12.Line).probes: params 3, captured 0, results [tmp 6] -/
noncomputable def L56 : List (Option Nat × List Nat) := [(some 0, [0, 1, 2]), (some 3, [0, 1, 2, 7, 8]), (some 5, [0, 1, 2, 7, 8]), (some 6, [0, 2, 7])]
noncomputable def A56_0 (Q : Value → AH → Prop) (t0 t1 t2 : Value) (h : AH) : Prop := Pt Pr K 56 none (retV Pr 56 Q) 37 [0, 1, 2] [.code (cc 56 2), .code (cc 56 3)] [] [t0, t1, t2] h
noncomputable def A56_1 (Q : Value → AH → Prop) (t0 t1 t2 t7 t8 : Value) (h : AH) : Prop := Pt Pr K 56 none (retV Pr 56 Q) 37 [0, 1, 2, 7, 8] [.code (cc 56 464), .code (cc 56 465), .code (cc 56 233), .inLoop (cc 56 116), .inBlock 0, .code (cc 56 15)] [] [t0, t1, t2, t7, t8] h
noncomputable def A56_2 (Q : Value → AH → Prop) (t0 t1 t2 t7 t8 : Value) (h : AH) : Prop := Pt Pr K 56 none (retV Pr 56 Q) 37 [0, 1, 2, 7, 8] [.code (cc 56 932), .inBlock 1, .code (cc 56 467), .inLoop (cc 56 116), .inBlock 0, .code (cc 56 15)] [] [t0, t1, t2, t7, t8] h
noncomputable def A56_3 (Q : Value → AH → Prop) (t0 t2 t7 : Value) (h : AH) : Prop := Pt Pr K 56 none (retV Pr 56 Q) 37 [0, 2, 7] [.code (cc 56 30), .code (cc 56 31)] [] [t0, t2, t7] h
theorem b56_0 {h : AH} {Q : Value → AH → Prop} {t0 t1 t2 : Value} (H :
 A56_1 Q t0 t1 t2 (.slice none 0 0) (I 0) h
) : A56_0 Q t0 t1 t2 h := by intro e he; cases he; exact bF L56 (by kernel_rfl) H
theorem b56_1 {h : AH} {Q : Value → AH → Prop} {t0 t1 t2 t7 t8 : Value} (H :
 thn (lenS t2) fun v0 =>
 thn (biI .lss t8 v0) fun v1 =>
 Br v1 (
 A56_2 Q t0 t1 t2 t7 t8 h) (
 A56_3 Q t0 t2 t7 h)
) : A56_1 Q t0 t1 t2 t7 t8 h := by intro e he; cases he; exact bF L56 (by kernel_rfl) H
theorem b56_2 {h : AH} {Q : Value → AH → Prop} {t0 t1 t2 t7 t8 : Value} (H :
 resv h 15 fun r1 h0 =>
 thn (idxS 1 t2 t8) fun v2 =>
 thn (ld1 h0 v2) fun v3 =>
 thn (nilV t0) fun v4 =>
 thn (padd 3 v4) fun v5 =>
 thn (padd 2 v5) fun v6 =>
 thn (ld1 h0 v6) fun v7 =>
 thn (fillL [(I 0), (I 0), (I 0), (I 0), (I 0), (I 0), (I 0), (.bool false), (I 0)] [(0, 1, (I 11)), (1, 1, v3), (2, 1, v7), (4, 1, t1)]) fun c8 =>
 thn (fillL [(I 0), (I 0), (I 0), (I 0), (I 0), (I 0), (I 0), (.bool false), (I 0)] [(0, 9, (.agg ⟨c8⟩))]) fun l10 =>
 alcSAt h0 (r1 + 12) 9 38 l10 1 1 fun s11 h9 =>
 thn (appV 9 72 38 h9 t7 s11) fun r12 => (fun v13 h14 =>
 thn (biI .add t8 (I 1)) fun v15 =>
 A56_1 Q t0 t1 t2 v13 v15 h14) r12.1 r12.2
) : A56_2 Q t0 t1 t2 t7 t8 h := by intro e he; cases he; exact bF L56 (by kernel_rfl) H
theorem b56_3 {h : AH} {Q : Value → AH → Prop} {t0 t2 t7 : Value} (H :
 thn (nilV t0) fun v0 =>
 thn (padd 13 v0) fun v1 =>
 thn (stV h 1 v1 t2) fun h2 =>
 thn (nilV t0) fun v3 =>
 thn (padd 12 v3) fun v4 =>
 thn (stV h2 1 v4 (.bool true)) fun h5 =>
 Q t7 h5
) : A56_3 Q t0 t2 t7 h := by intro e he; cases he; exact bF L56 (by kernel_rfl) H
theorem c56 {h : AH} {Q : Value → AH → Prop} {a0 a1 a2 : Value} (H : A56_0 Q a0 a1 a2 h) : Cl Pr K 56 [a0, a1, a2] h Q :=
  ok_enter (by kernel_rfl) (by kernel_rfl) (Eq.mp (by kernel_rfl) (H (fun i => ([a0, a1, a2] : List Value).getD i undef) rfl))

/-! ### 57 (*donjon/donjonref12.Line).Holders: params 2, captured 0, results [tmp 4] -/
noncomputable def L57 : List (Option Nat × List Nat) := [(some 0, [0, 1]), (some 3, [0, 1, 5, 6]), (some 5, [0, 1, 5, 6]), (some 6, [0, 1, 5, 6]), (some 4, [0, 1, 5, 6])]
noncomputable def A57_0 (Q : Value → AH → Prop) (t0 t1 : Value) (h : AH) : Prop := Pt Pr K 57 none (retV Pr 57 Q) 35 [0, 1] [.code (cc 57 2), .code (cc 57 3)] [] [t0, t1] h
noncomputable def A57_1 (Q : Value → AH → Prop) (t0 t1 t5 t6 : Value) (h : AH) : Prop := Pt Pr K 57 none (retV Pr 57 Q) 35 [0, 1, 5, 6] [.code (cc 57 464), .code (cc 57 465), .code (cc 57 233), .inLoop (cc 57 116), .inBlock 0, .code (cc 57 15)] [] [t0, t1, t5, t6] h
noncomputable def A57_2 (Q : Value → AH → Prop) (t0 t1 t5 t6 : Value) (h : AH) : Prop := Pt Pr K 57 none (retV Pr 57 Q) 35 [0, 1, 5, 6] [.code (cc 57 1864), .code (cc 57 1865), .inBlock 1, .code (cc 57 467), .inLoop (cc 57 116), .inBlock 0, .code (cc 57 15)] [] [t0, t1, t5, t6] h
noncomputable def A57_3 (Q : Value → AH → Prop) (t0 t1 t5 t6 : Value) (h : AH) : Prop := Pt Pr K 57 none (retV Pr 57 Q) 35 [0, 1, 5, 6] [.code (cc 57 3730), .inBlock 1, .code (cc 57 467), .inLoop (cc 57 116), .inBlock 0, .code (cc 57 15)] [] [t0, t1, t5, t6] h
noncomputable def A57_4 (Q : Value → AH → Prop) (t0 t1 t5 t6 : Value) (h : AH) : Prop := Pt Pr K 57 none (retV Pr 57 Q) 35 [0, 1, 5, 6] [.code (cc 57 467), .inLoop (cc 57 116), .inBlock 0, .code (cc 57 15)] [] [t0, t1, t5, t6] h
theorem b57_0 {h : AH} {Q : Value → AH → Prop} {t0 t1 : Value} (H :
 A57_1 Q t0 t1 (.slice none 0 0) (I 0) h
) : A57_0 Q t0 t1 h := by intro e he; cases he; exact bF L57 (by kernel_rfl) H
theorem b57_1 {h : AH} {Q : Value → AH → Prop} {t0 t1 t5 t6 : Value} (H :
 thn (biI .lss t6 (I 4)) fun v0 =>
 Br v0 (
 A57_2 Q t0 t1 t5 t6 h) (
 Q t5 h)
) : A57_1 Q t0 t1 t5 t6 h := by intro e he; cases he; exact bF L57 (by kernel_rfl) H
theorem b57_2 {h : AH} {Q : Value → AH → Prop} {t0 t1 t5 t6 : Value} (H :
 thn (biI .neq t6 t1) fun v0 =>
 Br v0 (
 thn (nilV t0) fun v1 =>
 thn (padd 0 v1) fun v2 =>
 thn (ld1 h v2) fun v3 =>
 thn (biI .eql t6 v3) fun v4 =>
 Br v4 (
 thn (fillL [(I 0)] [(0, 1, t6)]) fun l6 =>
 alcS h 1 3 l6 1 1 fun s7 h5 =>
 thn (appV 1 8 3 h5 t5 s7) fun r8 => (fun v9 h10 =>
 thn (biI .add t6 (I 1)) fun v11 =>
 A57_1 Q t0 t1 v9 v11 h10) r8.1 r8.2) (
 thn (nilV t0) fun v5 =>
 thn (padd 1 v5) fun v6 =>
 thn (ld1 h v6) fun v7 =>
 Cl Pr K 52 [v7, t6] h fun v8 h8 => -- donjon/donjonref12.in
 Br v8 (
 A57_3 Q t0 t1 t5 t6 h8) (
 A57_4 Q t0 t1 t5 t6 h8))) (
 thn (biI .add t6 (I 1)) fun v1 =>
 A57_1 Q t0 t1 t5 v1 h)
) : A57_2 Q t0 t1 t5 t6 h := by intro e he; cases he; exact bF L57 (by kernel_rfl) H
theorem b57_3 {h : AH} {Q : Value → AH → Prop} {t0 t1 t5 t6 : Value} (H :
 thn (fillL [(I 0)] [(0, 1, t6)]) fun l1 =>
 alcS h 1 3 l1 1 1 fun s2 h0 =>
 thn (appV 1 8 3 h0 t5 s2) fun r3 => (fun v4 h5 =>
 thn (biI .add t6 (I 1)) fun v6 =>
 A57_1 Q t0 t1 v4 v6 h5) r3.1 r3.2
) : A57_3 Q t0 t1 t5 t6 h := by intro e he; cases he; exact bF L57 (by kernel_rfl) H
theorem b57_4 {h : AH} {Q : Value → AH → Prop} {t0 t1 t5 t6 : Value} (H :
 thn (biI .add t6 (I 1)) fun v0 =>
 A57_1 Q t0 t1 t5 v0 h
) : A57_4 Q t0 t1 t5 t6 h := by intro e he; cases he; exact bF L57 (by kernel_rfl) H
theorem c57 {h : AH} {Q : Value → AH → Prop} {a0 a1 : Value} (H : A57_0 Q a0 a1 h) : Cl Pr K 57 [a0, a1] h Q :=
  ok_enter (by kernel_rfl) (by kernel_rfl) (Eq.mp (by kernel_rfl) (H (fun i => ([a0, a1] : List Value).getD i undef) rfl))

end Go.Proofs.YtagcnlaofkfpjaaDoor
end
