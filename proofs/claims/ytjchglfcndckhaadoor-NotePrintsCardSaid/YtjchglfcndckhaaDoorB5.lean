/- A part of the proof. -/
import Derived.Test.YtjchglfcndckhaaDoorChecked
import Derived.Test.YtjchglfcndckhaaDoorB4
import Derived.Lib.ItoaNum
import Derived.KernelRfl
section
namespace Go.Proofs.YtjchglfcndckhaaDoor
open Go Go.Ab
set_option maxRecDepth 100000
noncomputable abbrev Pr : Program := Tryd.prog
noncomputable def cc (f n : Nat) : Code := cd Pr f (dcd n)
/-- a number's text is known -/
noncomputable def K0 : FuncId → List Value → Option Ans := fun f args => match f, args with
  | 18, [.int .i64 n] => if -9223372036854775808 ≤ n ∧ n ≤ 9223372036854775807 then some (.val (.string ⟨(Lib.itoa n).toArray⟩)) else none
  | _, _ => none
noncomputable def K : FuncId → List Value → Option Ans := addK K0 9 (.bool true)
/-! ### 3 donjon/donjonlaw03.NotePrints: params 2, captured 0, results [tmp 4] -/
noncomputable def L3 : List (Option Nat × List Nat) := [(some 0, [0, 1])]
noncomputable def A3_0 (Q : Value → AH → Prop) (t0 t1 : Value) (h : AH) : Prop := Pt Pr K 3 none (retV Pr 3 Q) 40 [0, 1] [.code (cc 3 2), .code (cc 3 3)] [] [t0, t1] h
theorem b3_0 {h : AH} {Q : Value → AH → Prop} {t0 t1 : Value} (H :
 thn (blkOf 23 t0) fun b1 =>
 alc h b1 fun p2 h0 =>
 thn (blkOf 27 t1) fun b4 =>
 alc h0 b4 fun p5 h3 =>
 thn (ldN h3 7 (pt p2 0 0)) fun v6 =>
 thn (ldN h3 9 (pt p5 0 0)) fun v7 =>
 Cl Pr K 7 [v6, v7] h3 fun v8 h8 => -- donjon/note.Print
 thn (extV 0 v8) fun v9 =>
 thn (extV 1 v8) fun v10 =>
 thn (ldN h8 7 (pt p2 0 0)) fun v11 =>
 thn (ldN h8 9 (pt p5 0 0)) fun v12 =>
 Cl Pr K 8 [v11, v12] h8 fun v13 h13 => -- donjon/note.Check
 thn (biI .neq v13 (I 0)) fun v14 =>
 Br v14 (
 thn (biT .eql v9 (.string ⟨#[]⟩)) fun v15 =>
 Br v15 (
 thn (biI .eql v10 v13) fun v16 =>
 Br v16 (
 Cl Pr K 9 [] h13 fun v17 h17 => -- donjon/donjonlaw03.awake
 Q v17 h17) (
 Q (.bool false) h13)) (
 Q (.bool false) h13)) (
 thn (ldN h13 9 (pt p5 0 0)) fun v15 =>
 Cl Pr K 10 [v15] h13 fun v16 h16 => -- donjon/donjonref03.Print
 thn (biT .eql v9 v16) fun v17 =>
 Br v17 (
 thn (biI .eql v10 (I 0)) fun v18 =>
 Br v18 (
 Cl Pr K 9 [] h16 fun v19 h19 => -- donjon/donjonlaw03.awake
 Q v19 h19) (
 Q (.bool false) h16)) (
 Q (.bool false) h16))
) : A3_0 Q t0 t1 h := by intro e he; cases he; exact bF L3 (by kernel_rfl) H
theorem c3 {h : AH} {Q : Value → AH → Prop} {a0 a1 : Value} (H : A3_0 Q a0 a1 h) : Cl Pr K 3 [a0, a1] h Q :=
  ok_enter (by kernel_rfl) (by kernel_rfl) (Eq.mp (by kernel_rfl) (H (fun i => ([a0, a1] : List Value).getD i undef) rfl))

/-! ### 4 donjon/donjonlaw03.NoteMore: params 3, captured 0, results [tmp 6] -/
noncomputable def L4 : List (Option Nat × List Nat) := [(some 0, [0, 1, 2]), (some 6, [3, 4, 7])]
noncomputable def A4_0 (Q : Value → AH → Prop) (t0 t1 t2 : Value) (h : AH) : Prop := Pt Pr K 4 none (retV Pr 4 Q) 76 [0, 1, 2] [.code (cc 4 2), .code (cc 4 3)] [] [t0, t1, t2] h
noncomputable def A4_1 (Q : Value → AH → Prop) (t3 t4 t7 : Value) (h : AH) : Prop := Pt Pr K 4 none (retV Pr 4 Q) 76 [3, 4, 7] [.code (cc 4 126), .code (cc 4 127)] [] [t3, t4, t7] h
theorem b4_0 {h : AH} {Q : Value → AH → Prop} {t0 t1 t2 : Value} (H :
 thn (blkOf 23 t0) fun b1 =>
 alc h b1 fun p2 h0 =>
 thn (blkOf 27 t1) fun b4 =>
 alc h0 b4 fun p5 h3 =>
 thn (blkOf 24 t2) fun b7 =>
 alc h3 b7 fun p8 h6 =>
 thn (ldN h6 7 (pt p2 0 0)) fun v9 =>
 alc h6 (.cells [(I 0), (I 0), (I 0), (I 0), (I 0), (I 0), (I 0)] 23 (0, 0) true) fun p11 h10 =>
 thn (stV h10 7 (pt p11 0 0) v9) fun h12 =>
 thn (padd 0 (pt p2 0 0)) fun v13 =>
 thn (ld1 h12 v13) fun v14 =>
 thn (idxA 2 1 (pt p8 0 0) (I 0)) fun v15 =>
 thn (ld1 h12 v15) fun v16 =>
 thn (minV (I 3) v16) fun v17 =>
 thn (maxV (I 0) v17) fun v18 =>
 thn (biI .add v14 v18) fun v19 =>
 thn (padd 0 (pt p11 0 0)) fun v20 =>
 thn (stV h12 1 v20 v19) fun h21 =>
 thn (padd 1 (pt p2 0 0)) fun v22 =>
 thn (ld1 h21 v22) fun v23 =>
 thn (idxA 2 1 (pt p8 0 0) (I 1)) fun v24 =>
 thn (ld1 h21 v24) fun v25 =>
 thn (minV (I 15) v25) fun v26 =>
 thn (maxV (I 0) v26) fun v27 =>
 thn (biI .add v23 v27) fun v28 =>
 thn (padd 1 (pt p11 0 0)) fun v29 =>
 thn (stV h21 1 v29 v28) fun h30 =>
 thn (ldN h30 7 (pt p2 0 0)) fun v31 =>
 Cl Pr K 11 [v31] h30 fun v32 h32 => -- donjon/donjonlaw01.May
 thn (unV .not v32) fun v33 =>
 Br v33 (
 Cl Pr K 9 [] h32 fun v34 h34 => -- donjon/donjonlaw03.awake
 Q v34 h34) (
 thn (ldN h32 7 (pt p11 0 0)) fun v34 =>
 Cl Pr K 11 [v34] h32 fun v35 h35 => -- donjon/donjonlaw01.May
 thn (unV .not v35) fun v36 =>
 Br v36 (
 Cl Pr K 9 [] h35 fun v37 h37 => -- donjon/donjonlaw03.awake
 Q v37 h37) (
 A4_1 Q (pt p2 0 0) (pt p5 0 0) (pt p11 0 0) h35))
) : A4_0 Q t0 t1 t2 h := by intro e he; cases he; exact bF L4 (by kernel_rfl) H
theorem b4_1 {h : AH} {Q : Value → AH → Prop} {t3 t4 t7 : Value} (H :
 thn (ldN h 7 t3) fun v0 =>
 thn (ldN h 9 t4) fun v1 =>
 Cl Pr K 7 [v0, v1] h fun v2 h2 => -- donjon/note.Print
 thn (extV 0 v2) fun v3 =>
 thn (extV 1 v2) fun v4 =>
 thn (ldN h2 7 t7) fun v5 =>
 thn (ldN h2 9 t4) fun v6 =>
 Cl Pr K 7 [v5, v6] h2 fun v7 h7 => -- donjon/note.Print
 thn (extV 0 v7) fun v8 =>
 thn (extV 1 v7) fun v9 =>
 thn (biI .neq v4 (I 0)) fun v10 =>
 Br v10 (
 thn (biT .eql v3 (.string ⟨#[]⟩)) fun v11 =>
 Br v11 (
 thn (biI .eql v9 (I 0)) fun v12 =>
 Br v12 (
 Cl Pr K 9 [] h7 fun v13 h13 => -- donjon/donjonlaw03.awake
 Q v13 h13) (
 thn (biI .eql v9 v4) fun v13 =>
 Br v13 (
 Cl Pr K 9 [] h7 fun v14 h14 => -- donjon/donjonlaw03.awake
 Q v14 h14) (
 Q (.bool false) h7))) (
 Q (.bool false) h7)) (
 thn (biI .eql v9 (I 0)) fun v11 =>
 Br v11 (
 thn (biT .eql v3 v8) fun v12 =>
 Br v12 (
 Cl Pr K 9 [] h7 fun v13 h13 => -- donjon/donjonlaw03.awake
 Q v13 h13) (
 Q (.bool false) h7)) (
 Q (.bool false) h7))
) : A4_1 Q t3 t4 t7 h := by intro e he; cases he; exact bF L4 (by kernel_rfl) H
theorem c4 {h : AH} {Q : Value → AH → Prop} {a0 a1 a2 : Value} (H : A4_0 Q a0 a1 a2 h) : Cl Pr K 4 [a0, a1, a2] h Q :=
  ok_enter (by kernel_rfl) (by kernel_rfl) (Eq.mp (by kernel_rfl) (H (fun i => ([a0, a1, a2] : List Value).getD i undef) rfl))

/-! ### 5 donjon/donjonlaw03.NoteChecks: params 3, captured 0, results [tmp 6] -/
noncomputable def L5 : List (Option Nat × List Nat) := [(some 0, [0, 1, 2]), (some 5, [3, 4]), (some 6, [3, 4])]
noncomputable def A5_0 (Q : Value → AH → Prop) (t0 t1 t2 : Value) (h : AH) : Prop := Pt Pr K 5 none (retV Pr 5 Q) 83 [0, 1, 2] [.code (cc 5 2), .code (cc 5 3)] [] [t0, t1, t2] h
noncomputable def A5_1 (Q : Value → AH → Prop) (t3 t4 : Value) (h : AH) : Prop := Pt Pr K 5 none (retV Pr 5 Q) 83 [3, 4] [.code (cc 5 124), .code (cc 5 125), .code (cc 5 63)] [] [t3, t4] h
noncomputable def A5_2 (Q : Value → AH → Prop) (t3 t4 : Value) (h : AH) : Prop := Pt Pr K 5 none (retV Pr 5 Q) 83 [3, 4] [.code (cc 5 1000), .code (cc 5 1001), .code (cc 5 501), .code (cc 5 63)] [] [t3, t4] h
theorem b5_0 {h : AH} {Q : Value → AH → Prop} {t0 t1 t2 : Value} (H :
 thn (blkOf 23 t0) fun b1 =>
 alc h b1 fun p2 h0 =>
 thn (blkOf 27 t1) fun b4 =>
 alc h0 b4 fun p5 h3 =>
 Cl Pr K 12 [t2] h3 fun v6 h6 => -- donjon/note.Lane
 thn (extV 0 v6) fun v7 =>
 thn (extV 1 v6) fun v8 =>
 Cl Pr K 13 [t2] h6 fun v9 h9 => -- donjon/donjonref03.Lane
 thn (biI .lss v9 (I 0)) fun v10 =>
 Br v10 (
 thn (biI .neq v7 (I 0)) fun v11 =>
 Br v11 (
 Q (.bool false) h9) (
 thn (biI .neq v8 (I 15)) fun v12 =>
 Br v12 (
 Q (.bool false) h9) (
 thn (biI .geq v9 (I 0)) fun v13 =>
 Br v13 (
 thn (biI .neq v7 v9) fun v14 =>
 Br v14 (
 Q (.bool false) h9) (
 thn (biI .neq v8 (I 0)) fun v15 =>
 Br v15 (
 Q (.bool false) h9) (
 Cl Pr K 14 [t2] h9 fun v16 h16 => -- donjon/note.Home
 thn (biI .eql v9 (I 0)) fun v17 =>
 Br v17 (
 thn (biB .neq v16 (.bool true)) fun v18 =>
 Br v18 (
 Q (.bool false) h16) (
 A5_1 Q (pt p2 0 0) (pt p5 0 0) h16)) (
 thn (biI .eql v9 (I 1)) fun v18 =>
 thn (biB .neq v16 v18) fun v19 =>
 Br v19 (
 Q (.bool false) h16) (
 A5_1 Q (pt p2 0 0) (pt p5 0 0) h16))))) (
 Cl Pr K 14 [t2] h9 fun v14 h14 => -- donjon/note.Home
 thn (biI .eql v9 (I 0)) fun v15 =>
 Br v15 (
 thn (biB .neq v14 (.bool true)) fun v16 =>
 Br v16 (
 Q (.bool false) h14) (
 A5_1 Q (pt p2 0 0) (pt p5 0 0) h14)) (
 thn (biI .eql v9 (I 1)) fun v16 =>
 thn (biB .neq v14 v16) fun v17 =>
 Br v17 (
 Q (.bool false) h14) (
 A5_1 Q (pt p2 0 0) (pt p5 0 0) h14)))))) (
 thn (biI .geq v9 (I 0)) fun v11 =>
 Br v11 (
 thn (biI .neq v7 v9) fun v12 =>
 Br v12 (
 Q (.bool false) h9) (
 thn (biI .neq v8 (I 0)) fun v13 =>
 Br v13 (
 Q (.bool false) h9) (
 Cl Pr K 14 [t2] h9 fun v14 h14 => -- donjon/note.Home
 thn (biI .eql v9 (I 0)) fun v15 =>
 Br v15 (
 thn (biB .neq v14 (.bool true)) fun v16 =>
 Br v16 (
 Q (.bool false) h14) (
 A5_1 Q (pt p2 0 0) (pt p5 0 0) h14)) (
 thn (biI .eql v9 (I 1)) fun v16 =>
 thn (biB .neq v14 v16) fun v17 =>
 Br v17 (
 Q (.bool false) h14) (
 A5_1 Q (pt p2 0 0) (pt p5 0 0) h14))))) (
 Cl Pr K 14 [t2] h9 fun v12 h12 => -- donjon/note.Home
 thn (biI .eql v9 (I 0)) fun v13 =>
 Br v13 (
 thn (biB .neq v12 (.bool true)) fun v14 =>
 Br v14 (
 Q (.bool false) h12) (
 A5_1 Q (pt p2 0 0) (pt p5 0 0) h12)) (
 thn (biI .eql v9 (I 1)) fun v14 =>
 thn (biB .neq v12 v14) fun v15 =>
 Br v15 (
 Q (.bool false) h12) (
 A5_1 Q (pt p2 0 0) (pt p5 0 0) h12))))
) : A5_0 Q t0 t1 t2 h := by intro e he; cases he; exact bF L5 (by kernel_rfl) H
theorem b5_1 {h : AH} {Q : Value → AH → Prop} {t3 t4 : Value} (H :
 thn (ldN h 7 t3) fun v0 =>
 Cl Pr K 11 [v0] h fun v1 h1 => -- donjon/donjonlaw01.May
 thn (unV .not v1) fun v2 =>
 Br v2 (
 A5_2 Q t3 t4 h1) (
 resv h1 12 fun r4 h3 =>
 thn (ldN h3 7 t3) fun v5 =>
 thn (ldN h3 9 t4) fun v6 =>
 Cl Pr K 8 [v5, v6] h3 fun v7 h7 => -- donjon/note.Check
 thn (ldN h7 7 t3) fun v8 =>
 Cl Pr K 16 [v8] h7 fun v9 h9 => -- donjon/donjonlaw03.size
 thn (ldN h9 9 t4) fun v10 =>
 Cl Pr K 15 [v9, v10] h9 fun v11 h11 => -- donjon/donjonref03.Check
 thn (biI .eql v7 v11) fun v12 =>
 Br v12 (
 Cl Pr K 9 [] h11 fun v13 h13 => -- donjon/donjonlaw03.awake
(thn (ldN h3 7 t3) fun v14 =>
 veq v14 v8 = true) ∧ (
(thn (ldN h3 9 t4) fun v15 =>
 veq v15 v10 = true) ∧ (
(thn (ldN h7 9 t4) fun v16 =>
 veq v16 v10 = true) ∧ (
 Q v13 h13)))) (
(thn (ldN h3 7 t3) fun v13 =>
 veq v13 v8 = true) ∧ (
(thn (ldN h3 9 t4) fun v14 =>
 veq v14 v10 = true) ∧ (
(thn (ldN h7 9 t4) fun v15 =>
 veq v15 v10 = true) ∧ (
 Q (.bool false) h11)))))
) : A5_1 Q t3 t4 h := by intro e he; cases he; exact bF L5 (by kernel_rfl) H
theorem b5_2 {h : AH} {Q : Value → AH → Prop} {t3 t4 : Value} (H :
 thn (padd 0 t4) fun v0 =>
 thn (ld1 h v0) fun v1 =>
 Cl Pr K 13 [v1] h fun v2 h2 => -- donjon/donjonref03.Lane
 thn (biI .lss v2 (I 0)) fun v3 =>
 Br v3 (
 thn (ldN h2 7 t3) fun v4 =>
 thn (ldN h2 9 t4) fun v5 =>
 Cl Pr K 8 [v4, v5] h2 fun v6 h6 => -- donjon/note.Check
 thn (biI .eql v6 (I 15)) fun v7 =>
 Br v7 (
 Cl Pr K 9 [] h6 fun v8 h8 => -- donjon/donjonlaw03.awake
 Q v8 h8) (
 Q (.bool false) h6)) (
 thn (ldN h2 7 t3) fun v4 =>
 thn (ldN h2 9 t4) fun v5 =>
 Cl Pr K 8 [v4, v5] h2 fun v6 h6 => -- donjon/note.Check
 thn (biI .eql v6 (I 10)) fun v7 =>
 Br v7 (
 Cl Pr K 9 [] h6 fun v8 h8 => -- donjon/donjonlaw03.awake
 Q v8 h8) (
 Q (.bool false) h6))
) : A5_2 Q t3 t4 h := by intro e he; cases he; exact bF L5 (by kernel_rfl) H
theorem c5 {h : AH} {Q : Value → AH → Prop} {a0 a1 a2 : Value} (H : A5_0 Q a0 a1 a2 h) : Cl Pr K 5 [a0, a1, a2] h Q :=
  ok_enter (by kernel_rfl) (by kernel_rfl) (Eq.mp (by kernel_rfl) (H (fun i => ([a0, a1, a2] : List Value).getD i undef) rfl))

/-! ### 6 donjon/donjonlaw03.NoteOne: params 3, captured 0, results [tmp 6] -/
noncomputable def L6 : List (Option Nat × List Nat) := [(some 0, [0, 1, 2]), (some 3, [2, 3, 4]), (some 7, [2, 3, 4]), (some 16, [4]), (some 8, [2, 3, 4])]
noncomputable def A6_0 (Q : Value → AH → Prop) (t0 t1 t2 : Value) (h : AH) : Prop := Pt Pr K 6 none (retV Pr 6 Q) 100 [0, 1, 2] [.code (cc 6 2), .code (cc 6 3)] [] [t0, t1, t2] h
noncomputable def A6_1 (Q : Value → AH → Prop) (t2 t3 t4 : Value) (h : AH) : Prop := Pt Pr K 6 none (retV Pr 6 Q) 100 [2, 3, 4] [.code (cc 6 14), .code (cc 6 15)] [] [t2, t3, t4] h
noncomputable def A6_2 (Q : Value → AH → Prop) (t2 t3 t4 : Value) (h : AH) : Prop := Pt Pr K 6 none (retV Pr 6 Q) 100 [2, 3, 4] [.code (cc 6 252), .code (cc 6 253), .code (cc 6 127)] [] [t2, t3, t4] h
noncomputable def A6_3 (Q : Value → AH → Prop) (t4 : Value) (h : AH) : Prop := Pt Pr K 6 none (retV Pr 6 Q) 100 [4] [.code (cc 6 254), .code (cc 6 255)] [] [t4] h
noncomputable def A6_4 (Q : Value → AH → Prop) (t2 t3 t4 : Value) (h : AH) : Prop := Pt Pr K 6 none (retV Pr 6 Q) 100 [2, 3, 4] [.code (cc 6 1012), .code (cc 6 1013), .code (cc 6 127)] [] [t2, t3, t4] h
theorem b6_0 {h : AH} {Q : Value → AH → Prop} {t0 t1 t2 : Value} (H :
 thn (blkOf 23 t0) fun b1 =>
 alc h b1 fun p2 h0 =>
 thn (blkOf 27 t1) fun b4 =>
 alc h0 b4 fun p5 h3 =>
 thn (ldN h3 7 (pt p2 0 0)) fun v6 =>
 Cl Pr K 11 [v6] h3 fun v7 h7 => -- donjon/donjonlaw01.May
 thn (unV .not v7) fun v8 =>
 Br v8 (
 Cl Pr K 9 [] h7 fun v9 h9 => -- donjon/donjonlaw03.awake
 Q v9 h9) (
 thn (biI .lss t2 (I 1)) fun v9 =>
 Br v9 (
 Cl Pr K 9 [] h7 fun v10 h10 => -- donjon/donjonlaw03.awake
 Q v10 h10) (
 thn (ldN h7 7 (pt p2 0 0)) fun v10 =>
 thn (ldN h7 9 (pt p5 0 0)) fun v11 =>
 Cl Pr K 8 [v10, v11] h7 fun v12 h12 => -- donjon/note.Check
 thn (biI .neq v12 (I 0)) fun v13 =>
 Br v13 (
 Cl Pr K 9 [] h12 fun v14 h14 => -- donjon/donjonlaw03.awake
 Q v14 h14) (
 A6_1 Q t2 (pt p2 0 0) (pt p5 0 0) h12)))
) : A6_0 Q t0 t1 t2 h := by intro e he; cases he; exact bF L6 (by kernel_rfl) H
theorem b6_1 {h : AH} {Q : Value → AH → Prop} {t2 t3 t4 : Value} (H :
 thn (ldN h 9 t4) fun v0 =>
 alc h (.cells [(I 0), (I 0), (I 0), (I 0), (I 0), (I 0), (I 0), (.bool false), (I 0)] 27 (0, 0) true) fun p2 h1 =>
 thn (stV h1 9 (pt p2 0 0) v0) fun h3 =>
 thn (padd 0 t3) fun v4 =>
 thn (ld1 h3 v4) fun v5 =>
 thn (biI .sub v5 (I 1)) fun v6 =>
 thn (biI .rem t2 (I 1000)) fun v7 =>
 thn (biI .add v6 v7) fun v8 =>
 thn (biI .add v8 (I 1)) fun v9 =>
 thn (padd 1 (pt p2 0 0)) fun v10 =>
 thn (stV h3 1 v10 v9) fun h11 =>
 thn (ldN h11 7 t3) fun v12 =>
 thn (ldN h11 9 (pt p2 0 0)) fun v13 =>
 Cl Pr K 8 [v12, v13] h11 fun v14 h14 => -- donjon/note.Check
 thn (biI .neq v14 (I 10)) fun v15 =>
 Br v15 (
 Q (.bool false) h14) (
 A6_2 Q t2 t3 t4 h14)
) : A6_1 Q t2 t3 t4 h := by intro e he; cases he; exact bF L6 (by kernel_rfl) H
theorem b6_2 {h : AH} {Q : Value → AH → Prop} {t2 t3 t4 : Value} (H :
 thn (padd 0 t4) fun v0 =>
 thn (ld1 h v0) fun v1 =>
 thn (biI .eql v1 (I 4)) fun v2 =>
 Br v2 (
 thn (ldN h 9 t4) fun v3 =>
 alc h (.cells [(I 0), (I 0), (I 0), (I 0), (I 0), (I 0), (I 0), (.bool false), (I 0)] 27 (0, 0) true) fun p5 h4 =>
 thn (stV h4 9 (pt p5 0 0) v3) fun h6 =>
 thn (padd 8 (pt p5 0 0)) fun v7 =>
 thn (stV h6 1 v7 t2) fun h8 =>
 thn (ldN h8 9 t4) fun v9 =>
 alc h8 (.cells [(I 0), (I 0), (I 0), (I 0), (I 0), (I 0), (I 0), (.bool false), (I 0)] 27 (0, 0) true) fun p11 h10 =>
 thn (stV h10 9 (pt p11 0 0) v9) fun h12 =>
 thn (padd 7 (pt p11 0 0)) fun v13 =>
 thn (stV h12 1 v13 (.bool true)) fun h14 =>
 thn (ldN h14 9 t4) fun v15 =>
 alc h14 (.cells [(I 0), (I 0), (I 0), (I 0), (I 0), (I 0), (I 0), (.bool false), (I 0)] 27 (0, 0) true) fun p17 h16 =>
 thn (stV h16 9 (pt p17 0 0) v15) fun h18 =>
 thn (padd 5 (pt p17 0 0)) fun v19 =>
 thn (idxA 2 1 v19 (I 1)) fun v20 =>
 thn (stV h18 1 v20 t2) fun h21 =>
 thn (ldN h21 7 t3) fun v22 =>
 thn (ldN h21 9 (pt p5 0 0)) fun v23 =>
 Cl Pr K 8 [v22, v23] h21 fun v24 h24 => -- donjon/note.Check
 thn (biI .neq v24 (I 10)) fun v25 =>
 Br v25 (
 Q (.bool false) h24) (
 thn (ldN h24 7 t3) fun v26 =>
 thn (ldN h24 9 (pt p11 0 0)) fun v27 =>
 Cl Pr K 8 [v26, v27] h24 fun v28 h28 => -- donjon/note.Check
 thn (biI .neq v28 (I 10)) fun v29 =>
 Br v29 (
 Q (.bool false) h28) (
 thn (ldN h28 7 t3) fun v30 =>
 thn (ldN h28 9 (pt p17 0 0)) fun v31 =>
 Cl Pr K 8 [v30, v31] h28 fun v32 h32 => -- donjon/note.Check
 thn (biI .neq v32 (I 10)) fun v33 =>
 Br v33 (
 Q (.bool false) h32) (
 A6_3 Q t4 h32)))) (
 thn (padd 0 t4) fun v3 =>
 thn (ld1 h v3) fun v4 =>
 thn (biI .eql v4 (I 10)) fun v5 =>
 Br v5 (
 A6_4 Q t2 t3 t4 h) (
 A6_3 Q t4 h))
) : A6_2 Q t2 t3 t4 h := by intro e he; cases he; exact bF L6 (by kernel_rfl) H
theorem b6_3 {h : AH} {Q : Value → AH → Prop} {t4 : Value} (H :
 thn (padd 0 t4) fun v0 =>
 thn (ld1 h v0) fun v1 =>
 Cl Pr K 12 [v1] h fun v2 h2 => -- donjon/note.Lane
 thn (extV 0 v2) fun v3 =>
 thn (extV 1 v2) fun v4 =>
 thn (biI .eql v4 (I 0)) fun v5 =>
 Br v5 (
 thn (biI .geq v3 (I 0)) fun v6 =>
 Br v6 (
 thn (biI .lss v3 (I 4)) fun v7 =>
 Br v7 (
 thn (padd 0 t4) fun v8 =>
 thn (ld1 h2 v8) fun v9 =>
 Cl Pr K 14 [v9] h2 fun v10 h10 => -- donjon/note.Home
 thn (biI .lss v3 (I 2)) fun v11 =>
 thn (biB .eql v10 v11) fun v12 =>
 Br v12 (
 Cl Pr K 9 [] h10 fun v13 h13 => -- donjon/donjonlaw03.awake
 Q v13 h13) (
 Q (.bool false) h10)) (
 Q (.bool false) h2)) (
 Q (.bool false) h2)) (
 Q (.bool false) h2)
) : A6_3 Q t4 h := by intro e he; cases he; exact bF L6 (by kernel_rfl) H
theorem b6_4 {h : AH} {Q : Value → AH → Prop} {t2 t3 t4 : Value} (H :
 thn (ldN h 9 t4) fun v0 =>
 alc h (.cells [(I 0), (I 0), (I 0), (I 0), (I 0), (I 0), (I 0), (.bool false), (I 0)] 27 (0, 0) true) fun p2 h1 =>
 thn (stV h1 9 (pt p2 0 0) v0) fun h3 =>
 thn (padd 8 (pt p2 0 0)) fun v4 =>
 thn (stV h3 1 v4 t2) fun h5 =>
 thn (ldN h5 9 t4) fun v6 =>
 alc h5 (.cells [(I 0), (I 0), (I 0), (I 0), (I 0), (I 0), (I 0), (.bool false), (I 0)] 27 (0, 0) true) fun p8 h7 =>
 thn (stV h7 9 (pt p8 0 0) v6) fun h9 =>
 thn (padd 7 (pt p8 0 0)) fun v10 =>
 thn (stV h9 1 v10 (.bool true)) fun h11 =>
 thn (ldN h11 9 t4) fun v12 =>
 alc h11 (.cells [(I 0), (I 0), (I 0), (I 0), (I 0), (I 0), (I 0), (.bool false), (I 0)] 27 (0, 0) true) fun p14 h13 =>
 thn (stV h13 9 (pt p14 0 0) v12) fun h15 =>
 thn (padd 5 (pt p14 0 0)) fun v16 =>
 thn (idxA 2 1 v16 (I 1)) fun v17 =>
 thn (stV h15 1 v17 t2) fun h18 =>
 thn (ldN h18 7 t3) fun v19 =>
 thn (ldN h18 9 (pt p2 0 0)) fun v20 =>
 Cl Pr K 8 [v19, v20] h18 fun v21 h21 => -- donjon/note.Check
 thn (biI .neq v21 (I 10)) fun v22 =>
 Br v22 (
 Q (.bool false) h21) (
 thn (ldN h21 7 t3) fun v23 =>
 thn (ldN h21 9 (pt p8 0 0)) fun v24 =>
 Cl Pr K 8 [v23, v24] h21 fun v25 h25 => -- donjon/note.Check
 thn (biI .neq v25 (I 10)) fun v26 =>
 Br v26 (
 Q (.bool false) h25) (
 thn (ldN h25 7 t3) fun v27 =>
 thn (ldN h25 9 (pt p14 0 0)) fun v28 =>
 Cl Pr K 8 [v27, v28] h25 fun v29 h29 => -- donjon/note.Check
 thn (biI .neq v29 (I 10)) fun v30 =>
 Br v30 (
 Q (.bool false) h29) (
 A6_3 Q t4 h29)))
) : A6_4 Q t2 t3 t4 h := by intro e he; cases he; exact bF L6 (by kernel_rfl) H
theorem c6 {h : AH} {Q : Value → AH → Prop} {a0 a1 a2 : Value} (H : A6_0 Q a0 a1 a2 h) : Cl Pr K 6 [a0, a1, a2] h Q :=
  ok_enter (by kernel_rfl) (by kernel_rfl) (Eq.mp (by kernel_rfl) (H (fun i => ([a0, a1, a2] : List Value).getD i undef) rfl))

/-! ### 7 donjon/note.Print: params 2, captured 0, results [tmp 4, tmp 5] -/
noncomputable def L7 : List (Option Nat × List Nat) := [(some 0, [0, 1, 23]), (some 4, [3, 4, 5, 23]), (some 6, [3, 7, 23])]
noncomputable def A7_0 (ds : List Nat) (Q : Value → AH → Prop) (t0 t1 t23 : Value) (h : AH) : Prop := Pt Pr K 7 none (retV Pr 7 Q) 32 [0, 1, 23] [.code (cc 7 2), .code (cc 7 3)] ds [t0, t1, t23] h
noncomputable def A7_1 (ds : List Nat) (Q : Value → AH → Prop) (t3 t4 t5 t23 : Value) (h : AH) : Prop := Pt Pr K 7 none (retV Pr 7 Q) 32 [3, 4, 5, 23] [.code (cc 7 14), .code (cc 7 15)] ds [t3, t4, t5, t23] h
noncomputable def A7_2 (l : Nat) (Q : Value → AH → Prop) (t3 t7 t23 : Value) (h : AH) : Prop := Pt Pr K 7 (some l) (roundOut l Q) 32 [3, 7, 23] [.code (cc 7 244), .beginRound, .code (cc 7 245)] [] [t3, t7, t23] h
theorem b7_0 {h : AH} {Q : Value → AH → Prop} {ds : List Nat} {t0 t1 t23 : Value} (H :
 thn (blkOf 23 t0) fun b1 =>
 alc h b1 fun p2 h0 =>
 thn (blkOf 27 t1) fun b4 =>
 alc h0 b4 fun p5 h3 =>
 thn (ldN h3 7 (pt p2 0 0)) fun v6 =>
 thn (ldN h3 9 (pt p5 0 0)) fun v7 =>
 Cl Pr K 8 [v6, v7] h3 fun v8 h8 => -- donjon/note.Check
 thn (biI .neq v8 (I 0)) fun v9 =>
 Br v9 (
 thn (closeMarks ds h8) fun h10 =>
 Q (.tuple ⟨[(.string ⟨#[]⟩), v8]⟩) h10) (
 A7_1 ds Q (pt p5 0 0) (.string ⟨#[]⟩) (I 0) t23 h8)
) : A7_0 ds Q t0 t1 t23 h := by intro e he; cases he; exact bD L7 (by kernel_rfl) H
theorem b7_1 {h : AH} {Q : Value → AH → Prop} {ds : List Nat} {t3 t4 t5 t23 : Value} (H :
 thn (padd 0 t3) fun v0 =>
 thn (ld1 h v0) fun v1 =>
 thn (idxA 14 9 (.pointer (some ⟨0, 0, none⟩)) v1) fun v2 =>
 thn (padd 0 v2) fun v3 =>
 thn (ld1 h v3) fun v4 =>
 alc h (.cells [(.string ⟨#[]⟩)] 9 (0, 0) true) fun p6 h5 =>
 thn (stV h5 1 (pt p6 0 0) v4) fun h7 =>
 thn (padd 0 t3) fun v8 =>
 thn (ld1 h7 v8) fun v9 =>
 Cl Pr K 17 [v9] h7 fun v10 h10 => -- donjon/note.fields
 alc h10 (.marks true) fun d12 h11 =>
 ∀ e18 : Nat → Value, List.map e18 [3, 7, 23] = [t3, (pt p6 0 0), t23] →
 alc h11 (lp Pr 7 (dcd 122) 32 e18 d12 .ready none) fun l13 h14 =>
 OkR Pr K v10 l13 h14 fun v15 h16 =>
 thn (endV h16 l13) fun r17 => (fun x20 h21 =>
 EndX x20 (
 thn (ld1 h21 (pt p6 0 0)) fun v22 =>
 thn (closeMarks (d12 :: ds) h21) fun h23 =>
 Q (.tuple ⟨[v22, (I 0)]⟩) h23) (
 thn (closeMarks (d12 :: ds) h21) fun h22 =>
 Q (.tuple ⟨[t4, t5]⟩) h22) []) r17.1 r17.2
) : A7_1 ds Q t3 t4 t5 t23 h := by intro e he; cases he; exact bD L7 (by kernel_rfl) H
theorem b7_2 {h : AH} {Q : Value → AH → Prop} {l : Nat} {t3 t7 t23 : Value} (H :
 thn (beginV h l) fun h0 =>
 resv h0 8 fun r2 h1 =>
 thn (ld1 h1 t7) fun v3 =>
 thn (ldN h1 9 t3) fun v4 =>
 Cl Pr K 19 [v4, t23] h1 fun v5 h5 => -- donjon/note.get
 Cl Pr K 18 [v5] h5 fun v6 h6 => -- strconv.Itoa
 thn (biT .add (.string ⟨#[32]⟩) v6) fun v7 =>
 thn (biT .add v3 v7) fun v8 =>
 thn (stV h6 1 t7 v8) fun h9 =>
(thn (ld1 h5 t7) fun v10 =>
 veq v10 v3 = true) ∧ (
(thn (ld1 h6 t7) fun v11 =>
 veq v11 v3 = true) ∧ (
 thn (setLoop h9 l .ready (some none)) fun h12 =>
 Q (.bool true) h12))
) : A7_2 l Q t3 t7 t23 h := by intro e he; cases he; exact bR L7 (by kernel_rfl) H
theorem c7 {h : AH} {Q : Value → AH → Prop} {a0 a1 : Value} (H : A7_0 [] Q a0 a1 undef h) : Cl Pr K 7 [a0, a1] h Q :=
  ok_enter (by kernel_rfl) (by kernel_rfl) (Eq.mp (by kernel_rfl) (H (fun i => ([a0, a1] : List Value).getD i undef) rfl))
theorem r7_0 {h : AH} {Q : Value → AH → Prop} {l d : Nat} {e : Nat → Value} {st : LoopState} {pd : Option Code} {t3 t7 t23 : Value} {a0 : Value} (hg : h.get l = some (lp Pr 7 (dcd 122) 32 e d st pd)) (he : List.map e [3, 7, 23] = [t3, t7, t23]) (H : A7_2 l Q t3 t7 a0 h) : OkF Pr K (.func (.yield l) #[] #[]) [a0] h Q := by
  cases he; refine okF_round ?_; exact enter_lp (lv := [3, 7, 23]) (vs := [e 3, e 7, a0]) hg (by kernel_rfl) (by kernel_rfl) (Eq.mp (by kernel_rfl) H)

/-! ### 8 donjon/note.Check: params 2, captured 0, results [tmp 4] -/
noncomputable def L8 : List (Option Nat × List Nat) := [(some 0, [0, 1, 22]), (some 3, [2, 3, 4, 22]), (some 5, [2, 3, 4, 22]), (some 8, [2, 3, 5, 6, 22])]
noncomputable def A8_0 (ds : List Nat) (Q : Value → AH → Prop) (t0 t1 t22 : Value) (h : AH) : Prop := Pt Pr K 8 none (retV Pr 8 Q) 41 [0, 1, 22] [.code (cc 8 2), .code (cc 8 3)] ds [t0, t1, t22] h
noncomputable def A8_1 (ds : List Nat) (Q : Value → AH → Prop) (t2 t3 t4 t22 : Value) (h : AH) : Prop := Pt Pr K 8 none (retV Pr 8 Q) 41 [2, 3, 4, 22] [.code (cc 8 52), .code (cc 8 53), .code (cc 8 27), .inScope (cc 8 6)] ds [t2, t3, t4, t22] h
noncomputable def A8_2 (ds : List Nat) (Q : Value → AH → Prop) (t2 t3 t4 t22 : Value) (h : AH) : Prop := Pt Pr K 8 none (retV Pr 8 Q) 41 [2, 3, 4, 22] [.code (cc 8 54), .code (cc 8 55), .inScope (cc 8 6)] ds [t2, t3, t4, t22] h
noncomputable def A8_3 (l : Nat) (Q : Value → AH → Prop) (t2 t3 t5 t6 t22 : Value) (h : AH) : Prop := Pt Pr K 8 (some l) (roundOut l Q) 41 [2, 3, 5, 6, 22] [.code (cc 8 3572), .beginRound, .code (cc 8 3573)] [] [t2, t3, t5, t6, t22] h
theorem b8_0 {h : AH} {Q : Value → AH → Prop} {ds : List Nat} {t0 t1 t22 : Value} (H :
 thn (blkOf 23 t0) fun b1 =>
 alc h b1 fun p2 h0 =>
 thn (blkOf 27 t1) fun b4 =>
 alc h0 b4 fun p5 h3 =>
 thn (padd 0 (pt p5 0 0)) fun v6 =>
 thn (ld1 h3 v6) fun v7 =>
 Cl Pr K 20 [v7] h3 fun v8 h8 => -- donjon/note.is
 thn (unV .not v8) fun v9 =>
 Br v9 (
 thn (closeMarks ds h8) fun h10 =>
 Q (I 15) h10) (
 A8_1 ds Q (pt p2 0 0) (pt p5 0 0) (I 0) t22 h8)
) : A8_0 ds Q t0 t1 t22 h := by intro e he; cases he; exact bD L8 (by kernel_rfl) H
theorem b8_1 {h : AH} {Q : Value → AH → Prop} {ds : List Nat} {t2 t3 t4 t22 : Value} (H :
 thn (ldN h 7 t2) fun v0 =>
 Cl Pr K 21 [v0] h fun v1 h1 => -- donjon/place.Check
 thn (biI .neq v1 (I 0)) fun v2 =>
 Br v2 (
 thn (closeMarks ds h1) fun h3 =>
 Q (I 10) h3) (
 A8_2 ds Q t2 t3 t4 t22 h1)
) : A8_1 ds Q t2 t3 t4 t22 h := by intro e he; cases he; exact bD L8 (by kernel_rfl) H
theorem b8_2 {h : AH} {Q : Value → AH → Prop} {ds : List Nat} {t2 t3 t4 t22 : Value} (H :
 alc h (.cells [(.bool false)] 4 (0, 0) true) fun p1 h0 =>
 thn (stV h0 1 (pt p1 0 0) (.bool true)) fun h2 =>
 thn (padd 0 t3) fun v3 =>
 thn (ld1 h2 v3) fun v4 =>
 thn (fillL [(I 0), (I 0), (I 0), (I 0), (I 0), (I 0), (I 0), (.bool false), (I 0)] [(0, 1, v4)]) fun c5 =>
 alc h2 (.cells [(I 0), (I 0), (I 0), (I 0), (I 0), (I 0), (I 0), (.bool false), (I 0)] 27 (0, 0) true) fun p7 h6 =>
 thn (stV h6 9 (pt p7 0 0) (.agg ⟨c5⟩)) fun h8 =>
 thn (padd 0 t3) fun v9 =>
 thn (ld1 h8 v9) fun v10 =>
 Cl Pr K 17 [v10] h8 fun v11 h11 => -- donjon/note.fields
 alc h11 (.marks true) fun d13 h12 =>
 ∀ e19 : Nat → Value, List.map e19 [2, 3, 5, 6, 22] = [t2, t3, (pt p1 0 0), (pt p7 0 0), t22] →
 alc h12 (lp Pr 8 (dcd 1786) 41 e19 d13 .ready none) fun l14 h15 =>
 OkR Pr K v11 l14 h15 fun v16 h17 =>
 thn (endV h17 l14) fun r18 => (fun x21 h22 =>
 EndX x21 (
 thn (ld1 h22 (pt p1 0 0)) fun v23 =>
 thn (unV .not v23) fun v24 =>
 Br v24 (
 thn (closeMarks (d13 :: ds) h22) fun h25 =>
 Q (I 10) h25) (
 thn (ldN h22 9 (pt p7 0 0)) fun v25 =>
 thn (ldN h22 9 t3) fun v26 =>
 thn (biA [0, 0, 0, 0, 0, 0, 0, 1, 0] .neq v25 v26) fun v27 =>
 Br v27 (
 thn (closeMarks (d13 :: ds) h22) fun h28 =>
 Q (I 10) h28) (
 thn (closeMarks (d13 :: ds) h22) fun h28 =>
 Q (I 0) h28))) (
 thn (closeMarks (d13 :: ds) h22) fun h23 =>
 Q t4 h23) [(0, thn (ld1 h22 (pt p1 0 0)) fun v23 =>
 thn (unV .not v23) fun v24 =>
 Br v24 (
 thn (closeMarks (d13 :: ds) h22) fun h25 =>
 Q (I 10) h25) (
 thn (ldN h22 9 (pt p7 0 0)) fun v25 =>
 thn (ldN h22 9 t3) fun v26 =>
 thn (biA [0, 0, 0, 0, 0, 0, 0, 1, 0] .neq v25 v26) fun v27 =>
 Br v27 (
 thn (closeMarks (d13 :: ds) h22) fun h28 =>
 Q (I 10) h28) (
 thn (closeMarks (d13 :: ds) h22) fun h28 =>
 Q (I 0) h28)))]) r18.1 r18.2
) : A8_2 ds Q t2 t3 t4 t22 h := by intro e he; cases he; exact bD L8 (by kernel_rfl) H
theorem b8_3 {h : AH} {Q : Value → AH → Prop} {l : Nat} {t2 t3 t5 t6 t22 : Value} (H :
 thn (beginV h l) fun h0 =>
 thn (ldN h0 9 t3) fun v1 =>
 Cl Pr K 19 [v1, t22] h0 fun v2 h2 => -- donjon/note.get
 thn (ldN h2 7 t2) fun v3 =>
 Cl Pr K 22 [v3, t22, v2] h2 fun v4 h4 => -- donjon/note.may
 thn (unV .not v4) fun v5 =>
 Br v5 (
 thn (stV h4 1 t5 (.bool false)) fun h6 =>
 thn (setLoop h6 l .done (some (some (.exit 0)))) fun h7 =>
 Q (.bool false) h7) (
 Cl Pr K 23 [t6, t22, v2] h4 fun v6 h6 => -- donjon/note.set
 thn (setLoop h6 l .ready (some none)) fun h7 =>
 Q (.bool true) h7)
) : A8_3 l Q t2 t3 t5 t6 t22 h := by intro e he; cases he; exact bR L8 (by kernel_rfl) H
theorem c8 {h : AH} {Q : Value → AH → Prop} {a0 a1 : Value} (H : A8_0 [] Q a0 a1 undef h) : Cl Pr K 8 [a0, a1] h Q :=
  ok_enter (by kernel_rfl) (by kernel_rfl) (Eq.mp (by kernel_rfl) (H (fun i => ([a0, a1] : List Value).getD i undef) rfl))
theorem r8_0 {h : AH} {Q : Value → AH → Prop} {l d : Nat} {e : Nat → Value} {st : LoopState} {pd : Option Code} {t2 t3 t5 t6 t22 : Value} {a0 : Value} (hg : h.get l = some (lp Pr 8 (dcd 1786) 41 e d st pd)) (he : List.map e [2, 3, 5, 6, 22] = [t2, t3, t5, t6, t22]) (H : A8_3 l Q t2 t3 t5 t6 a0 h) : OkF Pr K (.func (.yield l) #[] #[]) [a0] h Q := by
  cases he; refine okF_round ?_; exact enter_lp (lv := [2, 3, 5, 6, 22]) (vs := [e 2, e 3, e 5, e 6, a0]) hg (by kernel_rfl) (by kernel_rfl) (Eq.mp (by kernel_rfl) H)

/-! ### 10 donjon/donjonref03.Print: params 1, captured 0, results [tmp 2] -/
noncomputable def L10 : List (Option Nat × List Nat) := [(some 0, [0]), (some 4, [3, 4, 5]), (some 6, [3, 4, 5])]
noncomputable def A10_0 (Q : Value → AH → Prop) (t0 : Value) (h : AH) : Prop := Pt Pr K 10 none (retV Pr 10 Q) 26 [0] [.code (cc 10 2), .code (cc 10 3)] [] [t0] h
noncomputable def A10_1 (Q : Value → AH → Prop) (t3 t4 t5 : Value) (h : AH) : Prop := Pt Pr K 10 none (retV Pr 10 Q) 26 [3, 4, 5] [.code (cc 10 976), .code (cc 10 977), .code (cc 10 489), .inLoop (cc 10 244), .inBlock 0, .code (cc 10 31)] [] [t3, t4, t5] h
noncomputable def A10_2 (Q : Value → AH → Prop) (t3 t4 t5 : Value) (h : AH) : Prop := Pt Pr K 10 none (retV Pr 10 Q) 26 [3, 4, 5] [.code (cc 10 1956), .inBlock 1, .code (cc 10 979), .inLoop (cc 10 244), .inBlock 0, .code (cc 10 31)] [] [t3, t4, t5] h
theorem b10_0 {h : AH} {Q : Value → AH → Prop} {t0 : Value} (H :
 thn (blkOf 27 t0) fun b1 =>
 alc h b1 fun p2 h0 =>
 thn (padd 0 (pt p2 0 0)) fun v3 =>
 thn (ld1 h0 v3) fun v4 =>
 Cl Pr K 24 [v4] h0 fun v5 h5 => -- donjon/donjonref03.Word
 thn (ldN h5 9 (pt p2 0 0)) fun v6 =>
 Cl Pr K 25 [v6] h5 fun v7 h7 => -- donjon/donjonref03.Numbers
 A10_1 Q v5 v7 (I 0) h7
) : A10_0 Q t0 h := by intro e he; cases he; exact bF L10 (by kernel_rfl) H
theorem b10_1 {h : AH} {Q : Value → AH → Prop} {t3 t4 t5 : Value} (H :
 thn (lenS t4) fun v0 =>
 thn (biI .lss t5 v0) fun v1 =>
 Br v1 (
 A10_2 Q t3 t4 t5 h) (
 Q t3 h)
) : A10_1 Q t3 t4 t5 h := by intro e he; cases he; exact bF L10 (by kernel_rfl) H
theorem b10_2 {h : AH} {Q : Value → AH → Prop} {t3 t4 t5 : Value} (H :
 thn (biT .add t3 (.string ⟨#[32]⟩)) fun v0 =>
 thn (idxS 1 t4 t5) fun v1 =>
 thn (ld1 h v1) fun v2 =>
 Cl Pr K 26 [v2] h fun v3 h3 => -- donjon/donjonref03.Decimal
 thn (biT .add v0 v3) fun v4 =>
 thn (biI .add t5 (I 1)) fun v5 =>
 A10_1 Q v4 t4 v5 h3
) : A10_2 Q t3 t4 t5 h := by intro e he; cases he; exact bF L10 (by kernel_rfl) H
theorem c10 {h : AH} {Q : Value → AH → Prop} {a0 : Value} (H : A10_0 Q a0 h) : Cl Pr K 10 [a0] h Q :=
  ok_enter (by kernel_rfl) (by kernel_rfl) (Eq.mp (by kernel_rfl) (H (fun i => ([a0] : List Value).getD i undef) rfl))

/-! ### 11 donjon/donjonlaw01.May: params 1, captured 0, results [tmp 2] -/
noncomputable def L11 : List (Option Nat × List Nat) := [(some 0, [0])]
noncomputable def A11_0 (Q : Value → AH → Prop) (t0 : Value) (h : AH) : Prop := Pt Pr K 11 none (retV Pr 11 Q) 19 [0] [.code (cc 11 2), .code (cc 11 3)] [] [t0] h
theorem b11_0 {h : AH} {Q : Value → AH → Prop} {t0 : Value} (H :
 thn (blkOf 23 t0) fun b1 =>
 alc h b1 fun p2 h0 =>
 thn (padd 0 (pt p2 0 0)) fun v3 =>
 thn (ld1 h0 v3) fun v4 =>
 thn (padd 1 (pt p2 0 0)) fun v5 =>
 thn (ld1 h0 v5) fun v6 =>
 thn (padd 2 (pt p2 0 0)) fun v7 =>
 thn (ld1 h0 v7) fun v8 =>
 thn (padd 3 (pt p2 0 0)) fun v9 =>
 thn (ld1 h0 v9) fun v10 =>
 thn (padd 4 (pt p2 0 0)) fun v11 =>
 thn (ld1 h0 v11) fun v12 =>
 thn (padd 5 (pt p2 0 0)) fun v13 =>
 thn (ld1 h0 v13) fun v14 =>
 thn (padd 6 (pt p2 0 0)) fun v15 =>
 thn (ld1 h0 v15) fun v16 =>
 thn (fillL [(I 0), (I 0), (I 0), (I 0), (I 0), (I 0), (I 0)] [(0, 1, v4), (1, 1, v6), (2, 1, v8), (3, 1, v10), (4, 1, v12), (5, 1, v14), (6, 1, v16)]) fun c17 =>
 Cl Pr K 27 [(.agg ⟨c17⟩)] h0 fun v18 h18 => -- donjon/donjonref01.May
 Q v18 h18
) : A11_0 Q t0 h := by intro e he; cases he; exact bF L11 (by kernel_rfl) H
theorem c11 {h : AH} {Q : Value → AH → Prop} {a0 : Value} (H : A11_0 Q a0 h) : Cl Pr K 11 [a0] h Q :=
  ok_enter (by kernel_rfl) (by kernel_rfl) (Eq.mp (by kernel_rfl) (H (fun i => ([a0] : List Value).getD i undef) rfl))

/-! ### 12 donjon/note.Lane: params 1, captured 0, results [tmp 2, tmp 3] -/
noncomputable def L12 : List (Option Nat × List Nat) := [(some 0, [0])]
noncomputable def A12_0 (Q : Value → AH → Prop) (t0 : Value) (h : AH) : Prop := Pt Pr K 12 none (retV Pr 12 Q) 11 [0] [.code (cc 12 2), .code (cc 12 3)] [] [t0] h
theorem b12_0 {h : AH} {Q : Value → AH → Prop} {t0 : Value} (H :
 Cl Pr K 20 [t0] h fun v0 h0 => -- donjon/note.is
 thn (unV .not v0) fun v1 =>
 Br v1 (
 Q (.tuple ⟨[(I 0), (I 15)]⟩) h0) (
 thn (idxA 14 9 (.pointer (some ⟨0, 0, none⟩)) t0) fun v2 =>
 thn (padd 1 v2) fun v3 =>
 thn (ld1 h0 v3) fun v4 =>
 Q (.tuple ⟨[v4, (I 0)]⟩) h0)
) : A12_0 Q t0 h := by intro e he; cases he; exact bF L12 (by kernel_rfl) H
theorem c12 {h : AH} {Q : Value → AH → Prop} {a0 : Value} (H : A12_0 Q a0 h) : Cl Pr K 12 [a0] h Q :=
  ok_enter (by kernel_rfl) (by kernel_rfl) (Eq.mp (by kernel_rfl) (H (fun i => ([a0] : List Value).getD i undef) rfl))

/-! ### 13 donjon/donjonref03.Lane: params 1, captured 0, results [tmp 2] -/
noncomputable def L13 : List (Option Nat × List Nat) := [(some 0, [0]), (some 3, [0])]
noncomputable def A13_0 (Q : Value → AH → Prop) (t0 : Value) (h : AH) : Prop := Pt Pr K 13 none (retV Pr 13 Q) 16 [0] [.code (cc 13 2), .code (cc 13 3)] [] [t0] h
noncomputable def A13_1 (Q : Value → AH → Prop) (t0 : Value) (h : AH) : Prop := Pt Pr K 13 none (retV Pr 13 Q) 16 [0] [.code (cc 13 14), .code (cc 13 15)] [] [t0] h
theorem b13_0 {h : AH} {Q : Value → AH → Prop} {t0 : Value} (H :
 thn (biI .lss t0 (I 1)) fun v0 =>
 Br v0 (
 Q (I (-1)) h) (
 thn (biI .gtr t0 (I 13)) fun v1 =>
 Br v1 (
 Q (I (-1)) h) (
 A13_1 Q t0 h))
) : A13_0 Q t0 h := by intro e he; cases he; exact bF L13 (by kernel_rfl) H
theorem b13_1 {h : AH} {Q : Value → AH → Prop} {t0 : Value} (H :
 thn (fillL [(I 0), (I 0), (I 0), (I 0), (I 0), (I 0), (I 0), (I 0), (I 0), (I 0), (I 0), (I 0), (I 0)] [(0, 1, (I 0)), (1, 1, (I 0)), (2, 1, (I 0)), (3, 1, (I 1)), (4, 1, (I 1)), (5, 1, (I 0)), (6, 1, (I 1)), (7, 1, (I 2)), (8, 1, (I 2)), (9, 1, (I 2)), (10, 1, (I 3)), (11, 1, (I 2)), (12, 1, (I 3))]) fun l1 =>
 alcS h 1 3 l1 13 13 fun s2 h0 =>
 thn (biI .sub t0 (I 1)) fun v3 =>
 thn (idxS 1 s2 v3) fun v4 =>
 thn (ld1 h0 v4) fun v5 =>
 Q v5 h0
) : A13_1 Q t0 h := by intro e he; cases he; exact bF L13 (by kernel_rfl) H
theorem c13 {h : AH} {Q : Value → AH → Prop} {a0 : Value} (H : A13_0 Q a0 h) : Cl Pr K 13 [a0] h Q :=
  ok_enter (by kernel_rfl) (by kernel_rfl) (Eq.mp (by kernel_rfl) (H (fun i => ([a0] : List Value).getD i undef) rfl))

/-! ### 14 donjon/note.Home: params 1, captured 0, results [tmp 2] -/
noncomputable def L14 : List (Option Nat × List Nat) := [(some 0, [0])]
noncomputable def A14_0 (Q : Value → AH → Prop) (t0 : Value) (h : AH) : Prop := Pt Pr K 14 none (retV Pr 14 Q) 20 [0] [.code (cc 14 2), .code (cc 14 3)] [] [t0] h
theorem b14_0 {h : AH} {Q : Value → AH → Prop} {t0 : Value} (H :
 Cl Pr K 12 [t0] h fun v0 h0 => -- donjon/note.Lane
 thn (extV 0 v0) fun v1 =>
 thn (extV 1 v0) fun v2 =>
 thn (biI .eql v2 (I 0)) fun v3 =>
 Br v3 (
 thn (biI .eql v1 (I 0)) fun v4 =>
 Br v4 (
 Q (.bool true) h0) (
 thn (biI .eql v1 (I 1)) fun v5 =>
 Q v5 h0)) (
 Q (.bool false) h0)
) : A14_0 Q t0 h := by intro e he; cases he; exact bF L14 (by kernel_rfl) H
theorem c14 {h : AH} {Q : Value → AH → Prop} {a0 : Value} (H : A14_0 Q a0 h) : Cl Pr K 14 [a0] h Q :=
  ok_enter (by kernel_rfl) (by kernel_rfl) (Eq.mp (by kernel_rfl) (H (fun i => ([a0] : List Value).getD i undef) rfl))

/-! ### 15 donjon/donjonref03.Check: params 2, captured 0, results [tmp 4] -/
noncomputable def L15 : List (Option Nat × List Nat) := [(some 0, [0, 1]), (some 4, [2, 3, 5]), (some 5, [2, 3, 5, 6]), (some 7, [2, 3, 5, 6]), (some 9, [3]), (some 6, [2, 3, 5, 6]), (some 11, [3])]
noncomputable def A15_0 (Q : Value → AH → Prop) (t0 t1 : Value) (h : AH) : Prop := Pt Pr K 15 none (retV Pr 15 Q) 93 [0, 1] [.code (cc 15 2), .code (cc 15 3)] [] [t0, t1] h
noncomputable def A15_1 (Q : Value → AH → Prop) (t2 t3 t5 : Value) (h : AH) : Prop := Pt Pr K 15 none (retV Pr 15 Q) 93 [2, 3, 5] [.code (cc 15 60), .code (cc 15 61), .code (cc 15 31)] [] [t2, t3, t5] h
noncomputable def A15_2 (Q : Value → AH → Prop) (t2 t3 t5 t6 : Value) (h : AH) : Prop := Pt Pr K 15 none (retV Pr 15 Q) 93 [2, 3, 5, 6] [.code (cc 15 976), .code (cc 15 977), .code (cc 15 489), .inLoop (cc 15 244), .inBlock 0, .code (cc 15 31)] [] [t2, t3, t5, t6] h
noncomputable def A15_3 (Q : Value → AH → Prop) (t2 t3 t5 t6 : Value) (h : AH) : Prop := Pt Pr K 15 none (retV Pr 15 Q) 93 [2, 3, 5, 6] [.code (cc 15 3912), .code (cc 15 3913), .inBlock 1, .code (cc 15 979), .inLoop (cc 15 244), .inBlock 0, .code (cc 15 31)] [] [t2, t3, t5, t6] h
noncomputable def A15_4 (Q : Value → AH → Prop) (t3 : Value) (h : AH) : Prop := Pt Pr K 15 none (retV Pr 15 Q) 93 [3] [.code (cc 15 124), .code (cc 15 125), .code (cc 15 63)] [] [t3] h
noncomputable def A15_5 (Q : Value → AH → Prop) (t2 t3 t5 t6 : Value) (h : AH) : Prop := Pt Pr K 15 none (retV Pr 15 Q) 93 [2, 3, 5, 6] [.code (cc 15 979), .inLoop (cc 15 244), .inBlock 0, .code (cc 15 31)] [] [t2, t3, t5, t6] h
noncomputable def A15_6 (Q : Value → AH → Prop) (t3 : Value) (h : AH) : Prop := Pt Pr K 15 none (retV Pr 15 Q) 93 [3] [.code (cc 15 252), .code (cc 15 253), .code (cc 15 127)] [] [t3] h
theorem b15_0 {h : AH} {Q : Value → AH → Prop} {t0 t1 : Value} (H :
 thn (blkOf 43 t0) fun b1 =>
 alc h b1 fun p2 h0 =>
 thn (blkOf 27 t1) fun b4 =>
 alc h0 b4 fun p5 h3 =>
 thn (padd 0 (pt p5 0 0)) fun v6 =>
 thn (ld1 h3 v6) fun v7 =>
 Cl Pr K 28 [v7] h3 fun v8 h8 => -- donjon/donjonref03.Fields
 thn (biT .eql v8 (.string ⟨#[]⟩)) fun v9 =>
 Br v9 (
 Q (I 15) h8) (
 A15_1 Q (pt p2 0 0) (pt p5 0 0) v8 h8)
) : A15_0 Q t0 t1 h := by intro e he; cases he; exact bF L15 (by kernel_rfl) H
theorem b15_1 {h : AH} {Q : Value → AH → Prop} {t2 t3 t5 : Value} (H :
 A15_2 Q t2 t3 t5 (I 0) h
) : A15_1 Q t2 t3 t5 h := by intro e he; cases he; exact bF L15 (by kernel_rfl) H
theorem b15_2 {h : AH} {Q : Value → AH → Prop} {t2 t3 t5 t6 : Value} (H :
 thn (lenT t5) fun v0 =>
 thn (biI .lss t6 v0) fun v1 =>
 Br v1 (
 A15_3 Q t2 t3 t5 t6 h) (
 A15_4 Q t3 h)
) : A15_2 Q t2 t3 t5 t6 h := by intro e he; cases he; exact bF L15 (by kernel_rfl) H
theorem b15_3 {h : AH} {Q : Value → AH → Prop} {t2 t3 t5 t6 : Value} (H :
 resv h 7 fun r1 h0 =>
 thn (ldN h0 2 t2) fun v2 =>
 thn (ldN h0 9 t3) fun v3 =>
 thn (atS t5 t6) fun v4 =>
 Cl Pr K 29 [v2, v3, v4] h0 fun v5 h5 => -- donjon/donjonref03.right
 thn (unV .not v5) fun v6 =>
 Br v6 (
 Q (I 10) h5) (
 A15_5 Q t2 t3 t5 t6 h5)
) : A15_3 Q t2 t3 t5 t6 h := by intro e he; cases he; exact bF L15 (by kernel_rfl) H
theorem b15_4 {h : AH} {Q : Value → AH → Prop} {t3 : Value} (H :
 thn (padd 0 t3) fun v0 =>
 thn (ld1 h v0) fun v1 =>
 Cl Pr K 30 [v1, (.string ⟨#[108]⟩)] h fun v2 h2 => -- donjon/donjonref03.Has
 thn (unV .not v2) fun v3 =>
 Br v3 (
 thn (padd 2 t3) fun v4 =>
 thn (ld1 h2 v4) fun v5 =>
 thn (biI .neq v5 (I 0)) fun v6 =>
 Br v6 (
 Q (I 10) h2) (
 thn (padd 0 t3) fun v7 =>
 thn (ld1 h2 v7) fun v8 =>
 Cl Pr K 30 [v8, (.string ⟨#[119, 116]⟩)] h2 fun v9 h9 => -- donjon/donjonref03.Has
 thn (unV .not v9) fun v10 =>
 Br v10 (
 thn (padd 3 t3) fun v11 =>
 thn (ld1 h9 v11) fun v12 =>
 thn (biI .neq v12 (I 0)) fun v13 =>
 Br v13 (
 Q (I 10) h9) (
 thn (padd 0 t3) fun v14 =>
 thn (ld1 h9 v14) fun v15 =>
 Cl Pr K 30 [v15, (.string ⟨#[115, 103, 111]⟩)] h9 fun v16 h16 => -- donjon/donjonref03.Has
 thn (unV .not v16) fun v17 =>
 Br v17 (
 thn (padd 4 t3) fun v18 =>
 thn (ld1 h16 v18) fun v19 =>
 thn (biI .neq v19 (I 0)) fun v20 =>
 Br v20 (
 Q (I 10) h16) (
 A15_6 Q t3 h16)) (
 thn (padd 0 t3) fun v18 =>
 thn (ld1 h16 v18) fun v19 =>
 Cl Pr K 30 [v19, (.string ⟨#[100]⟩)] h16 fun v20 h20 => -- donjon/donjonref03.Has
 thn (unV .not v20) fun v21 =>
 Br v21 (
 thn (padd 5 t3) fun v22 =>
 thn (idxA 2 1 v22 (I 0)) fun v23 =>
 thn (ld1 h20 v23) fun v24 =>
 thn (biI .neq v24 (I 0)) fun v25 =>
 Br v25 (
 Q (I 10) h20) (
 thn (padd 5 t3) fun v26 =>
 thn (idxA 2 1 v26 (I 1)) fun v27 =>
 thn (ld1 h20 v27) fun v28 =>
 thn (biI .neq v28 (I 0)) fun v29 =>
 Br v29 (
 Q (I 10) h20) (
 thn (padd 0 t3) fun v30 =>
 thn (ld1 h20 v30) fun v31 =>
 Cl Pr K 30 [v31, (.string ⟨#[120]⟩)] h20 fun v32 h32 => -- donjon/donjonref03.Has
 thn (unV .not v32) fun v33 =>
 Br v33 (
 thn (padd 7 t3) fun v34 =>
 thn (ld1 h32 v34) fun v35 =>
 Br v35 (
 Q (I 10) h32) (
 thn (padd 0 t3) fun v36 =>
 thn (ld1 h32 v36) fun v37 =>
 Cl Pr K 30 [v37, (.string ⟨#[112, 110, 98]⟩)] h32 fun v38 h38 => -- donjon/donjonref03.Has
 thn (unV .not v38) fun v39 =>
 Br v39 (
 thn (padd 8 t3) fun v40 =>
 thn (ld1 h38 v40) fun v41 =>
 thn (biI .neq v41 (I 0)) fun v42 =>
 Br v42 (
 Q (I 10) h38) (
 Q (I 0) h38)) (
 Q (I 0) h38))) (
 thn (padd 0 t3) fun v34 =>
 thn (ld1 h32 v34) fun v35 =>
 Cl Pr K 30 [v35, (.string ⟨#[112, 110, 98]⟩)] h32 fun v36 h36 => -- donjon/donjonref03.Has
 thn (unV .not v36) fun v37 =>
 Br v37 (
 thn (padd 8 t3) fun v38 =>
 thn (ld1 h36 v38) fun v39 =>
 thn (biI .neq v39 (I 0)) fun v40 =>
 Br v40 (
 Q (I 10) h36) (
 Q (I 0) h36)) (
 Q (I 0) h36))))) (
 thn (padd 0 t3) fun v22 =>
 thn (ld1 h20 v22) fun v23 =>
 Cl Pr K 30 [v23, (.string ⟨#[120]⟩)] h20 fun v24 h24 => -- donjon/donjonref03.Has
 thn (unV .not v24) fun v25 =>
 Br v25 (
 thn (padd 7 t3) fun v26 =>
 thn (ld1 h24 v26) fun v27 =>
 Br v27 (
 Q (I 10) h24) (
 thn (padd 0 t3) fun v28 =>
 thn (ld1 h24 v28) fun v29 =>
 Cl Pr K 30 [v29, (.string ⟨#[112, 110, 98]⟩)] h24 fun v30 h30 => -- donjon/donjonref03.Has
 thn (unV .not v30) fun v31 =>
 Br v31 (
 thn (padd 8 t3) fun v32 =>
 thn (ld1 h30 v32) fun v33 =>
 thn (biI .neq v33 (I 0)) fun v34 =>
 Br v34 (
 Q (I 10) h30) (
 Q (I 0) h30)) (
 Q (I 0) h30))) (
 thn (padd 0 t3) fun v26 =>
 thn (ld1 h24 v26) fun v27 =>
 Cl Pr K 30 [v27, (.string ⟨#[112, 110, 98]⟩)] h24 fun v28 h28 => -- donjon/donjonref03.Has
 thn (unV .not v28) fun v29 =>
 Br v29 (
 thn (padd 8 t3) fun v30 =>
 thn (ld1 h28 v30) fun v31 =>
 thn (biI .neq v31 (I 0)) fun v32 =>
 Br v32 (
 Q (I 10) h28) (
 Q (I 0) h28)) (
 Q (I 0) h28)))))) (
 thn (padd 0 t3) fun v11 =>
 thn (ld1 h9 v11) fun v12 =>
 Cl Pr K 30 [v12, (.string ⟨#[115, 103, 111]⟩)] h9 fun v13 h13 => -- donjon/donjonref03.Has
 thn (unV .not v13) fun v14 =>
 Br v14 (
 thn (padd 4 t3) fun v15 =>
 thn (ld1 h13 v15) fun v16 =>
 thn (biI .neq v16 (I 0)) fun v17 =>
 Br v17 (
 Q (I 10) h13) (
 A15_6 Q t3 h13)) (
 thn (padd 0 t3) fun v15 =>
 thn (ld1 h13 v15) fun v16 =>
 Cl Pr K 30 [v16, (.string ⟨#[100]⟩)] h13 fun v17 h17 => -- donjon/donjonref03.Has
 thn (unV .not v17) fun v18 =>
 Br v18 (
 thn (padd 5 t3) fun v19 =>
 thn (idxA 2 1 v19 (I 0)) fun v20 =>
 thn (ld1 h17 v20) fun v21 =>
 thn (biI .neq v21 (I 0)) fun v22 =>
 Br v22 (
 Q (I 10) h17) (
 thn (padd 5 t3) fun v23 =>
 thn (idxA 2 1 v23 (I 1)) fun v24 =>
 thn (ld1 h17 v24) fun v25 =>
 thn (biI .neq v25 (I 0)) fun v26 =>
 Br v26 (
 Q (I 10) h17) (
 thn (padd 0 t3) fun v27 =>
 thn (ld1 h17 v27) fun v28 =>
 Cl Pr K 30 [v28, (.string ⟨#[120]⟩)] h17 fun v29 h29 => -- donjon/donjonref03.Has
 thn (unV .not v29) fun v30 =>
 Br v30 (
 thn (padd 7 t3) fun v31 =>
 thn (ld1 h29 v31) fun v32 =>
 Br v32 (
 Q (I 10) h29) (
 thn (padd 0 t3) fun v33 =>
 thn (ld1 h29 v33) fun v34 =>
 Cl Pr K 30 [v34, (.string ⟨#[112, 110, 98]⟩)] h29 fun v35 h35 => -- donjon/donjonref03.Has
 thn (unV .not v35) fun v36 =>
 Br v36 (
 thn (padd 8 t3) fun v37 =>
 thn (ld1 h35 v37) fun v38 =>
 thn (biI .neq v38 (I 0)) fun v39 =>
 Br v39 (
 Q (I 10) h35) (
 Q (I 0) h35)) (
 Q (I 0) h35))) (
 thn (padd 0 t3) fun v31 =>
 thn (ld1 h29 v31) fun v32 =>
 Cl Pr K 30 [v32, (.string ⟨#[112, 110, 98]⟩)] h29 fun v33 h33 => -- donjon/donjonref03.Has
 thn (unV .not v33) fun v34 =>
 Br v34 (
 thn (padd 8 t3) fun v35 =>
 thn (ld1 h33 v35) fun v36 =>
 thn (biI .neq v36 (I 0)) fun v37 =>
 Br v37 (
 Q (I 10) h33) (
 Q (I 0) h33)) (
 Q (I 0) h33))))) (
 thn (padd 0 t3) fun v19 =>
 thn (ld1 h17 v19) fun v20 =>
 Cl Pr K 30 [v20, (.string ⟨#[120]⟩)] h17 fun v21 h21 => -- donjon/donjonref03.Has
 thn (unV .not v21) fun v22 =>
 Br v22 (
 thn (padd 7 t3) fun v23 =>
 thn (ld1 h21 v23) fun v24 =>
 Br v24 (
 Q (I 10) h21) (
 thn (padd 0 t3) fun v25 =>
 thn (ld1 h21 v25) fun v26 =>
 Cl Pr K 30 [v26, (.string ⟨#[112, 110, 98]⟩)] h21 fun v27 h27 => -- donjon/donjonref03.Has
 thn (unV .not v27) fun v28 =>
 Br v28 (
 thn (padd 8 t3) fun v29 =>
 thn (ld1 h27 v29) fun v30 =>
 thn (biI .neq v30 (I 0)) fun v31 =>
 Br v31 (
 Q (I 10) h27) (
 Q (I 0) h27)) (
 Q (I 0) h27))) (
 thn (padd 0 t3) fun v23 =>
 thn (ld1 h21 v23) fun v24 =>
 Cl Pr K 30 [v24, (.string ⟨#[112, 110, 98]⟩)] h21 fun v25 h25 => -- donjon/donjonref03.Has
 thn (unV .not v25) fun v26 =>
 Br v26 (
 thn (padd 8 t3) fun v27 =>
 thn (ld1 h25 v27) fun v28 =>
 thn (biI .neq v28 (I 0)) fun v29 =>
 Br v29 (
 Q (I 10) h25) (
 Q (I 0) h25)) (
 Q (I 0) h25))))))) (
 thn (padd 0 t3) fun v4 =>
 thn (ld1 h2 v4) fun v5 =>
 Cl Pr K 30 [v5, (.string ⟨#[119, 116]⟩)] h2 fun v6 h6 => -- donjon/donjonref03.Has
 thn (unV .not v6) fun v7 =>
 Br v7 (
 thn (padd 3 t3) fun v8 =>
 thn (ld1 h6 v8) fun v9 =>
 thn (biI .neq v9 (I 0)) fun v10 =>
 Br v10 (
 Q (I 10) h6) (
 thn (padd 0 t3) fun v11 =>
 thn (ld1 h6 v11) fun v12 =>
 Cl Pr K 30 [v12, (.string ⟨#[115, 103, 111]⟩)] h6 fun v13 h13 => -- donjon/donjonref03.Has
 thn (unV .not v13) fun v14 =>
 Br v14 (
 thn (padd 4 t3) fun v15 =>
 thn (ld1 h13 v15) fun v16 =>
 thn (biI .neq v16 (I 0)) fun v17 =>
 Br v17 (
 Q (I 10) h13) (
 A15_6 Q t3 h13)) (
 thn (padd 0 t3) fun v15 =>
 thn (ld1 h13 v15) fun v16 =>
 Cl Pr K 30 [v16, (.string ⟨#[100]⟩)] h13 fun v17 h17 => -- donjon/donjonref03.Has
 thn (unV .not v17) fun v18 =>
 Br v18 (
 thn (padd 5 t3) fun v19 =>
 thn (idxA 2 1 v19 (I 0)) fun v20 =>
 thn (ld1 h17 v20) fun v21 =>
 thn (biI .neq v21 (I 0)) fun v22 =>
 Br v22 (
 Q (I 10) h17) (
 thn (padd 5 t3) fun v23 =>
 thn (idxA 2 1 v23 (I 1)) fun v24 =>
 thn (ld1 h17 v24) fun v25 =>
 thn (biI .neq v25 (I 0)) fun v26 =>
 Br v26 (
 Q (I 10) h17) (
 thn (padd 0 t3) fun v27 =>
 thn (ld1 h17 v27) fun v28 =>
 Cl Pr K 30 [v28, (.string ⟨#[120]⟩)] h17 fun v29 h29 => -- donjon/donjonref03.Has
 thn (unV .not v29) fun v30 =>
 Br v30 (
 thn (padd 7 t3) fun v31 =>
 thn (ld1 h29 v31) fun v32 =>
 Br v32 (
 Q (I 10) h29) (
 thn (padd 0 t3) fun v33 =>
 thn (ld1 h29 v33) fun v34 =>
 Cl Pr K 30 [v34, (.string ⟨#[112, 110, 98]⟩)] h29 fun v35 h35 => -- donjon/donjonref03.Has
 thn (unV .not v35) fun v36 =>
 Br v36 (
 thn (padd 8 t3) fun v37 =>
 thn (ld1 h35 v37) fun v38 =>
 thn (biI .neq v38 (I 0)) fun v39 =>
 Br v39 (
 Q (I 10) h35) (
 Q (I 0) h35)) (
 Q (I 0) h35))) (
 thn (padd 0 t3) fun v31 =>
 thn (ld1 h29 v31) fun v32 =>
 Cl Pr K 30 [v32, (.string ⟨#[112, 110, 98]⟩)] h29 fun v33 h33 => -- donjon/donjonref03.Has
 thn (unV .not v33) fun v34 =>
 Br v34 (
 thn (padd 8 t3) fun v35 =>
 thn (ld1 h33 v35) fun v36 =>
 thn (biI .neq v36 (I 0)) fun v37 =>
 Br v37 (
 Q (I 10) h33) (
 Q (I 0) h33)) (
 Q (I 0) h33))))) (
 thn (padd 0 t3) fun v19 =>
 thn (ld1 h17 v19) fun v20 =>
 Cl Pr K 30 [v20, (.string ⟨#[120]⟩)] h17 fun v21 h21 => -- donjon/donjonref03.Has
 thn (unV .not v21) fun v22 =>
 Br v22 (
 thn (padd 7 t3) fun v23 =>
 thn (ld1 h21 v23) fun v24 =>
 Br v24 (
 Q (I 10) h21) (
 thn (padd 0 t3) fun v25 =>
 thn (ld1 h21 v25) fun v26 =>
 Cl Pr K 30 [v26, (.string ⟨#[112, 110, 98]⟩)] h21 fun v27 h27 => -- donjon/donjonref03.Has
 thn (unV .not v27) fun v28 =>
 Br v28 (
 thn (padd 8 t3) fun v29 =>
 thn (ld1 h27 v29) fun v30 =>
 thn (biI .neq v30 (I 0)) fun v31 =>
 Br v31 (
 Q (I 10) h27) (
 Q (I 0) h27)) (
 Q (I 0) h27))) (
 thn (padd 0 t3) fun v23 =>
 thn (ld1 h21 v23) fun v24 =>
 Cl Pr K 30 [v24, (.string ⟨#[112, 110, 98]⟩)] h21 fun v25 h25 => -- donjon/donjonref03.Has
 thn (unV .not v25) fun v26 =>
 Br v26 (
 thn (padd 8 t3) fun v27 =>
 thn (ld1 h25 v27) fun v28 =>
 thn (biI .neq v28 (I 0)) fun v29 =>
 Br v29 (
 Q (I 10) h25) (
 Q (I 0) h25)) (
 Q (I 0) h25)))))) (
 thn (padd 0 t3) fun v8 =>
 thn (ld1 h6 v8) fun v9 =>
 Cl Pr K 30 [v9, (.string ⟨#[115, 103, 111]⟩)] h6 fun v10 h10 => -- donjon/donjonref03.Has
 thn (unV .not v10) fun v11 =>
 Br v11 (
 thn (padd 4 t3) fun v12 =>
 thn (ld1 h10 v12) fun v13 =>
 thn (biI .neq v13 (I 0)) fun v14 =>
 Br v14 (
 Q (I 10) h10) (
 A15_6 Q t3 h10)) (
 thn (padd 0 t3) fun v12 =>
 thn (ld1 h10 v12) fun v13 =>
 Cl Pr K 30 [v13, (.string ⟨#[100]⟩)] h10 fun v14 h14 => -- donjon/donjonref03.Has
 thn (unV .not v14) fun v15 =>
 Br v15 (
 thn (padd 5 t3) fun v16 =>
 thn (idxA 2 1 v16 (I 0)) fun v17 =>
 thn (ld1 h14 v17) fun v18 =>
 thn (biI .neq v18 (I 0)) fun v19 =>
 Br v19 (
 Q (I 10) h14) (
 thn (padd 5 t3) fun v20 =>
 thn (idxA 2 1 v20 (I 1)) fun v21 =>
 thn (ld1 h14 v21) fun v22 =>
 thn (biI .neq v22 (I 0)) fun v23 =>
 Br v23 (
 Q (I 10) h14) (
 thn (padd 0 t3) fun v24 =>
 thn (ld1 h14 v24) fun v25 =>
 Cl Pr K 30 [v25, (.string ⟨#[120]⟩)] h14 fun v26 h26 => -- donjon/donjonref03.Has
 thn (unV .not v26) fun v27 =>
 Br v27 (
 thn (padd 7 t3) fun v28 =>
 thn (ld1 h26 v28) fun v29 =>
 Br v29 (
 Q (I 10) h26) (
 thn (padd 0 t3) fun v30 =>
 thn (ld1 h26 v30) fun v31 =>
 Cl Pr K 30 [v31, (.string ⟨#[112, 110, 98]⟩)] h26 fun v32 h32 => -- donjon/donjonref03.Has
 thn (unV .not v32) fun v33 =>
 Br v33 (
 thn (padd 8 t3) fun v34 =>
 thn (ld1 h32 v34) fun v35 =>
 thn (biI .neq v35 (I 0)) fun v36 =>
 Br v36 (
 Q (I 10) h32) (
 Q (I 0) h32)) (
 Q (I 0) h32))) (
 thn (padd 0 t3) fun v28 =>
 thn (ld1 h26 v28) fun v29 =>
 Cl Pr K 30 [v29, (.string ⟨#[112, 110, 98]⟩)] h26 fun v30 h30 => -- donjon/donjonref03.Has
 thn (unV .not v30) fun v31 =>
 Br v31 (
 thn (padd 8 t3) fun v32 =>
 thn (ld1 h30 v32) fun v33 =>
 thn (biI .neq v33 (I 0)) fun v34 =>
 Br v34 (
 Q (I 10) h30) (
 Q (I 0) h30)) (
 Q (I 0) h30))))) (
 thn (padd 0 t3) fun v16 =>
 thn (ld1 h14 v16) fun v17 =>
 Cl Pr K 30 [v17, (.string ⟨#[120]⟩)] h14 fun v18 h18 => -- donjon/donjonref03.Has
 thn (unV .not v18) fun v19 =>
 Br v19 (
 thn (padd 7 t3) fun v20 =>
 thn (ld1 h18 v20) fun v21 =>
 Br v21 (
 Q (I 10) h18) (
 thn (padd 0 t3) fun v22 =>
 thn (ld1 h18 v22) fun v23 =>
 Cl Pr K 30 [v23, (.string ⟨#[112, 110, 98]⟩)] h18 fun v24 h24 => -- donjon/donjonref03.Has
 thn (unV .not v24) fun v25 =>
 Br v25 (
 thn (padd 8 t3) fun v26 =>
 thn (ld1 h24 v26) fun v27 =>
 thn (biI .neq v27 (I 0)) fun v28 =>
 Br v28 (
 Q (I 10) h24) (
 Q (I 0) h24)) (
 Q (I 0) h24))) (
 thn (padd 0 t3) fun v20 =>
 thn (ld1 h18 v20) fun v21 =>
 Cl Pr K 30 [v21, (.string ⟨#[112, 110, 98]⟩)] h18 fun v22 h22 => -- donjon/donjonref03.Has
 thn (unV .not v22) fun v23 =>
 Br v23 (
 thn (padd 8 t3) fun v24 =>
 thn (ld1 h22 v24) fun v25 =>
 thn (biI .neq v25 (I 0)) fun v26 =>
 Br v26 (
 Q (I 10) h22) (
 Q (I 0) h22)) (
 Q (I 0) h22))))))
) : A15_4 Q t3 h := by intro e he; cases he; exact bF L15 (by kernel_rfl) H
theorem b15_5 {h : AH} {Q : Value → AH → Prop} {t2 t3 t5 t6 : Value} (H :
 thn (biI .add t6 (I 1)) fun v0 =>
 A15_2 Q t2 t3 t5 v0 h
) : A15_5 Q t2 t3 t5 t6 h := by intro e he; cases he; exact bF L15 (by kernel_rfl) H
theorem b15_6 {h : AH} {Q : Value → AH → Prop} {t3 : Value} (H :
 thn (padd 0 t3) fun v0 =>
 thn (ld1 h v0) fun v1 =>
 Cl Pr K 30 [v1, (.string ⟨#[100]⟩)] h fun v2 h2 => -- donjon/donjonref03.Has
 thn (unV .not v2) fun v3 =>
 Br v3 (
 thn (padd 5 t3) fun v4 =>
 thn (idxA 2 1 v4 (I 0)) fun v5 =>
 thn (ld1 h2 v5) fun v6 =>
 thn (biI .neq v6 (I 0)) fun v7 =>
 Br v7 (
 Q (I 10) h2) (
 thn (padd 5 t3) fun v8 =>
 thn (idxA 2 1 v8 (I 1)) fun v9 =>
 thn (ld1 h2 v9) fun v10 =>
 thn (biI .neq v10 (I 0)) fun v11 =>
 Br v11 (
 Q (I 10) h2) (
 thn (padd 0 t3) fun v12 =>
 thn (ld1 h2 v12) fun v13 =>
 Cl Pr K 30 [v13, (.string ⟨#[120]⟩)] h2 fun v14 h14 => -- donjon/donjonref03.Has
 thn (unV .not v14) fun v15 =>
 Br v15 (
 thn (padd 7 t3) fun v16 =>
 thn (ld1 h14 v16) fun v17 =>
 Br v17 (
 Q (I 10) h14) (
 thn (padd 0 t3) fun v18 =>
 thn (ld1 h14 v18) fun v19 =>
 Cl Pr K 30 [v19, (.string ⟨#[112, 110, 98]⟩)] h14 fun v20 h20 => -- donjon/donjonref03.Has
 thn (unV .not v20) fun v21 =>
 Br v21 (
 thn (padd 8 t3) fun v22 =>
 thn (ld1 h20 v22) fun v23 =>
 thn (biI .neq v23 (I 0)) fun v24 =>
 Br v24 (
 Q (I 10) h20) (
 Q (I 0) h20)) (
 Q (I 0) h20))) (
 thn (padd 0 t3) fun v16 =>
 thn (ld1 h14 v16) fun v17 =>
 Cl Pr K 30 [v17, (.string ⟨#[112, 110, 98]⟩)] h14 fun v18 h18 => -- donjon/donjonref03.Has
 thn (unV .not v18) fun v19 =>
 Br v19 (
 thn (padd 8 t3) fun v20 =>
 thn (ld1 h18 v20) fun v21 =>
 thn (biI .neq v21 (I 0)) fun v22 =>
 Br v22 (
 Q (I 10) h18) (
 Q (I 0) h18)) (
 Q (I 0) h18))))) (
 thn (padd 0 t3) fun v4 =>
 thn (ld1 h2 v4) fun v5 =>
 Cl Pr K 30 [v5, (.string ⟨#[120]⟩)] h2 fun v6 h6 => -- donjon/donjonref03.Has
 thn (unV .not v6) fun v7 =>
 Br v7 (
 thn (padd 7 t3) fun v8 =>
 thn (ld1 h6 v8) fun v9 =>
 Br v9 (
 Q (I 10) h6) (
 thn (padd 0 t3) fun v10 =>
 thn (ld1 h6 v10) fun v11 =>
 Cl Pr K 30 [v11, (.string ⟨#[112, 110, 98]⟩)] h6 fun v12 h12 => -- donjon/donjonref03.Has
 thn (unV .not v12) fun v13 =>
 Br v13 (
 thn (padd 8 t3) fun v14 =>
 thn (ld1 h12 v14) fun v15 =>
 thn (biI .neq v15 (I 0)) fun v16 =>
 Br v16 (
 Q (I 10) h12) (
 Q (I 0) h12)) (
 Q (I 0) h12))) (
 thn (padd 0 t3) fun v8 =>
 thn (ld1 h6 v8) fun v9 =>
 Cl Pr K 30 [v9, (.string ⟨#[112, 110, 98]⟩)] h6 fun v10 h10 => -- donjon/donjonref03.Has
 thn (unV .not v10) fun v11 =>
 Br v11 (
 thn (padd 8 t3) fun v12 =>
 thn (ld1 h10 v12) fun v13 =>
 thn (biI .neq v13 (I 0)) fun v14 =>
 Br v14 (
 Q (I 10) h10) (
 Q (I 0) h10)) (
 Q (I 0) h10)))
) : A15_6 Q t3 h := by intro e he; cases he; exact bF L15 (by kernel_rfl) H
theorem c15 {h : AH} {Q : Value → AH → Prop} {a0 a1 : Value} (H : A15_0 Q a0 a1 h) : Cl Pr K 15 [a0, a1] h Q :=
  ok_enter (by kernel_rfl) (by kernel_rfl) (Eq.mp (by kernel_rfl) (H (fun i => ([a0, a1] : List Value).getD i undef) rfl))

/-! ### 16 donjon/donjonlaw03.size: params 1, captured 0, results [cell 2 : 43] -/
noncomputable def L16 : List (Option Nat × List Nat) := [(some 0, [0])]
noncomputable def A16_0 (Q : Value → AH → Prop) (t0 : Value) (h : AH) : Prop := Pt Pr K 16 none (retV Pr 16 Q) 8 [0] [.code (cc 16 2), .code (cc 16 3)] [] [t0] h
theorem b16_0 {h : AH} {Q : Value → AH → Prop} {t0 : Value} (H :
 thn (blkOf 23 t0) fun b1 =>
 alc h b1 fun p2 h0 =>
 alc h0 (.cells [(I 0), (I 0)] 43 (0, 0) true) fun p4 h3 =>
 thn (padd 0 (pt p2 0 0)) fun v5 =>
 thn (ld1 h3 v5) fun v6 =>
 thn (padd 1 (pt p2 0 0)) fun v7 =>
 thn (ld1 h3 v7) fun v8 =>
 thn (fillL [(I 0), (I 0)] [(0, 1, v6), (1, 1, v8)]) fun c9 =>
 thn (stV h3 2 (pt p4 0 0) (.agg ⟨c9⟩)) fun h10 =>
 thn (ldN h10 2 (pt p4 0 0)) fun v11 =>
 Q v11 h10
) : A16_0 Q t0 h := by intro e he; cases he; exact bF L16 (by kernel_rfl) H
theorem c16 {h : AH} {Q : Value → AH → Prop} {a0 : Value} (H : A16_0 Q a0 h) : Cl Pr K 16 [a0] h Q :=
  ok_enter (by kernel_rfl) (by kernel_rfl) (Eq.mp (by kernel_rfl) (H (fun i => ([a0] : List Value).getD i undef) rfl))

/-! ### 17 donjon/note.fields: params 1, captured 0, results [tmp 2] -/
noncomputable def L17 : List (Option Nat × List Nat) := [(some 0, [0])]
noncomputable def A17_0 (Q : Value → AH → Prop) (t0 : Value) (h : AH) : Prop := Pt Pr K 17 none (retV Pr 17 Q) 4 [0] [.code (cc 17 2), .code (cc 17 3)] [] [t0] h
theorem b17_0 {h : AH} {Q : Value → AH → Prop} {t0 : Value} (H :
 thn (blkOf 3 t0) fun b1 =>
 alc h b1 fun p2 h0 =>
 Q (.func (.func 31) #[] #[(pt p2 0 0)]) h0
) : A17_0 Q t0 h := by intro e he; cases he; exact bF L17 (by kernel_rfl) H
theorem c17 {h : AH} {Q : Value → AH → Prop} {a0 : Value} (H : A17_0 Q a0 h) : Cl Pr K 17 [a0] h Q :=
  ok_enter (by kernel_rfl) (by kernel_rfl) (Eq.mp (by kernel_rfl) (H (fun i => ([a0] : List Value).getD i undef) rfl))

/-! ### 19 donjon/note.get: params 2, captured 0, results [tmp 4] -/
noncomputable def L19 : List (Option Nat × List Nat) := [(some 0, [0, 1, 19]), (some 4, [2, 5, 19]), (some 6, [2, 5, 19]), (some 21, [2, 5, 14, 19]), (some 7, [2, 5]), (some 9, [2, 5, 14]), (some 10, [2, 5, 14]), (some 13, [2, 5]), (some 11, [2, 5]), (some 15, [2, 5]), (some 17, [2, 5]), (some 18, [2])]
noncomputable def A19_0 (Q : Value → AH → Prop) (t0 t1 t19 : Value) (h : AH) : Prop := Pt Pr K 19 none (retV Pr 19 Q) 41 [0, 1, 19] [.code (cc 19 2), .code (cc 19 3)] [] [t0, t1, t19] h
noncomputable def A19_1 (Q : Value → AH → Prop) (t2 t5 t19 : Value) (h : AH) : Prop := Pt Pr K 19 none (retV Pr 19 Q) 41 [2, 5, 19] [.code (cc 19 214), .code (cc 19 215), .inBlock 0, .code (cc 19 7)] [] [t2, t5, t19] h
noncomputable def A19_2 (Q : Value → AH → Prop) (t2 t5 t19 : Value) (h : AH) : Prop := Pt Pr K 19 none (retV Pr 19 Q) 41 [2, 5, 19] [.code (cc 19 1724), .code (cc 19 1725), .code (cc 19 863), .inBlock 0, .code (cc 19 7)] [] [t2, t5, t19] h
noncomputable def A19_3 (Q : Value → AH → Prop) (t2 t5 t14 t19 : Value) (h : AH) : Prop := Pt Pr K 19 none (retV Pr 19 Q) 41 [2, 5, 14, 19] [.code (cc 19 863), .inBlock 0, .code (cc 19 7)] [] [t2, t5, t14, t19] h
noncomputable def A19_4 (Q : Value → AH → Prop) (t2 t5 : Value) (h : AH) : Prop := Pt Pr K 19 none (retV Pr 19 Q) 41 [2, 5] [.code (cc 19 3451), .code (cc 19 863), .inBlock 0, .code (cc 19 7)] [] [t2, t5] h
noncomputable def A19_5 (Q : Value → AH → Prop) (t2 t5 t14 : Value) (h : AH) : Prop := Pt Pr K 19 none (retV Pr 19 Q) 41 [2, 5, 14] [.code (cc 19 6908), .code (cc 19 6909), .code (cc 19 3455), .inBlock 0, .code (cc 19 7)] [] [t2, t5, t14] h
noncomputable def A19_6 (Q : Value → AH → Prop) (t2 t5 t14 t19 : Value) (h : AH) : Prop := Pt Pr K 19 none (retV Pr 19 Q) 41 [2, 5, 14, 19] [.code (cc 19 3455), .inBlock 0, .code (cc 19 7)] [] [t2, t5, t14, t19] h
noncomputable def A19_7 (Q : Value → AH → Prop) (t2 t5 t14 : Value) (h : AH) : Prop := Pt Pr K 19 none (retV Pr 19 Q) 41 [2, 5, 14] [.code (cc 19 27638), .code (cc 19 27639), .code (cc 19 3455), .inBlock 0, .code (cc 19 7)] [] [t2, t5, t14] h
noncomputable def A19_8 (Q : Value → AH → Prop) (t2 t5 : Value) (h : AH) : Prop := Pt Pr K 19 none (retV Pr 19 Q) 41 [2, 5] [.code (cc 19 13822), .code (cc 19 13823), .inBlock 0, .code (cc 19 7)] [] [t2, t5] h
noncomputable def A19_9 (Q : Value → AH → Prop) (t2 t5 : Value) (h : AH) : Prop := Pt Pr K 19 none (retV Pr 19 Q) 41 [2, 5] [.code (cc 19 55279), .code (cc 19 3455), .inBlock 0, .code (cc 19 7)] [] [t2, t5] h
noncomputable def A19_10 (Q : Value → AH → Prop) (t2 t5 : Value) (h : AH) : Prop := Pt Pr K 19 none (retV Pr 19 Q) 41 [2, 5] [.code (cc 19 55294), .code (cc 19 55295), .inBlock 0, .code (cc 19 7)] [] [t2, t5] h
noncomputable def A19_11 (Q : Value → AH → Prop) (t2 t5 : Value) (h : AH) : Prop := Pt Pr K 19 none (retV Pr 19 Q) 41 [2, 5] [.code (cc 19 221182), .code (cc 19 221183), .inBlock 0, .code (cc 19 7)] [] [t2, t5] h
noncomputable def A19_12 (Q : Value → AH → Prop) (t2 : Value) (h : AH) : Prop := Pt Pr K 19 none (retV Pr 19 Q) 41 [2] [.code (cc 19 1769464), .code (cc 19 1769465), .code (cc 19 884733), .inBlock 0, .code (cc 19 7)] [] [t2] h
theorem b19_0 {h : AH} {Q : Value → AH → Prop} {t0 t1 t19 : Value} (H :
 thn (blkOf 27 t0) fun b1 =>
 alc h b1 fun p2 h0 =>
 thn (biI .eql t1 (I 1)) fun v3 =>
 Br v3 (
 thn (padd 1 (pt p2 0 0)) fun v4 =>
 thn (ld1 h0 v4) fun v5 =>
 Q v5 h0) (
 A19_1 Q (pt p2 0 0) t1 t19 h0)
) : A19_0 Q t0 t1 t19 h := by intro e he; cases he; exact bF L19 (by kernel_rfl) H
theorem b19_1 {h : AH} {Q : Value → AH → Prop} {t2 t5 t19 : Value} (H :
 thn (biI .eql t5 (I 2)) fun v0 =>
 Br v0 (
 thn (padd 2 t2) fun v1 =>
 thn (ld1 h v1) fun v2 =>
 Q v2 h) (
 A19_2 Q t2 t5 t19 h)
) : A19_1 Q t2 t5 t19 h := by intro e he; cases he; exact bF L19 (by kernel_rfl) H
theorem b19_2 {h : AH} {Q : Value → AH → Prop} {t2 t5 t19 : Value} (H :
 thn (biI .eql t5 (I 3)) fun v0 =>
 Br v0 (
 A19_3 Q t2 t5 v0 t19 h) (
 A19_4 Q t2 t5 h)
) : A19_2 Q t2 t5 t19 h := by intro e he; cases he; exact bF L19 (by kernel_rfl) H
theorem b19_3 {h : AH} {Q : Value → AH → Prop} {t2 t5 t14 t19 : Value} (H :
 Br t14 (
 thn (padd 3 t2) fun v0 =>
 thn (ld1 h v0) fun v1 =>
 Q v1 h) (
 A19_5 Q t2 t5 t14 h)
) : A19_3 Q t2 t5 t14 t19 h := by intro e he; cases he; exact bF L19 (by kernel_rfl) H
theorem b19_4 {h : AH} {Q : Value → AH → Prop} {t2 t5 : Value} (H :
 thn (biI .eql t5 (I 4)) fun v0 =>
 Br v0 (
 thn (padd 3 t2) fun v1 =>
 thn (ld1 h v1) fun v2 =>
 Q v2 h) (
 A19_5 Q t2 t5 v0 h)
) : A19_4 Q t2 t5 h := by intro e he; cases he; exact bF L19 (by kernel_rfl) H
theorem b19_5 {h : AH} {Q : Value → AH → Prop} {t2 t5 t14 : Value} (H :
 thn (biI .eql t5 (I 5)) fun v0 =>
 Br v0 (
 A19_6 Q t2 t5 t14 v0 h) (
 A19_7 Q t2 t5 t14 h)
) : A19_5 Q t2 t5 t14 h := by intro e he; cases he; exact bF L19 (by kernel_rfl) H
theorem b19_6 {h : AH} {Q : Value → AH → Prop} {t2 t5 t14 t19 : Value} (H :
 Br t19 (
 thn (padd 4 t2) fun v0 =>
 thn (ld1 h v0) fun v1 =>
 Q v1 h) (
 A19_8 Q t2 t5 h)
) : A19_6 Q t2 t5 t14 t19 h := by intro e he; cases he; exact bF L19 (by kernel_rfl) H
theorem b19_7 {h : AH} {Q : Value → AH → Prop} {t2 t5 t14 : Value} (H :
 thn (biI .eql t5 (I 6)) fun v0 =>
 Br v0 (
 A19_6 Q t2 t5 t14 v0 h) (
 A19_9 Q t2 t5 h)
) : A19_7 Q t2 t5 t14 h := by intro e he; cases he; exact bF L19 (by kernel_rfl) H
theorem b19_8 {h : AH} {Q : Value → AH → Prop} {t2 t5 : Value} (H :
 thn (biI .eql t5 (I 8)) fun v0 =>
 Br v0 (
 thn (padd 5 t2) fun v1 =>
 thn (idxA 2 1 v1 (I 0)) fun v2 =>
 thn (ld1 h v2) fun v3 =>
 Q v3 h) (
 A19_10 Q t2 t5 h)
) : A19_8 Q t2 t5 h := by intro e he; cases he; exact bF L19 (by kernel_rfl) H
theorem b19_9 {h : AH} {Q : Value → AH → Prop} {t2 t5 : Value} (H :
 thn (biI .eql t5 (I 7)) fun v0 =>
 Br v0 (
 thn (padd 4 t2) fun v1 =>
 thn (ld1 h v1) fun v2 =>
 Q v2 h) (
 A19_8 Q t2 t5 h)
) : A19_9 Q t2 t5 h := by intro e he; cases he; exact bF L19 (by kernel_rfl) H
theorem b19_10 {h : AH} {Q : Value → AH → Prop} {t2 t5 : Value} (H :
 thn (biI .eql t5 (I 9)) fun v0 =>
 Br v0 (
 thn (padd 5 t2) fun v1 =>
 thn (idxA 2 1 v1 (I 1)) fun v2 =>
 thn (ld1 h v2) fun v3 =>
 Q v3 h) (
 A19_11 Q t2 t5 h)
) : A19_10 Q t2 t5 h := by intro e he; cases he; exact bF L19 (by kernel_rfl) H
theorem b19_11 {h : AH} {Q : Value → AH → Prop} {t2 t5 : Value} (H :
 thn (biI .eql t5 (I 10)) fun v0 =>
 Br v0 (
 A19_12 Q t2 h) (
 thn (padd 8 t2) fun v1 =>
 thn (ld1 h v1) fun v2 =>
 Q v2 h)
) : A19_11 Q t2 t5 h := by intro e he; cases he; exact bF L19 (by kernel_rfl) H
theorem b19_12 {h : AH} {Q : Value → AH → Prop} {t2 : Value} (H :
 thn (padd 7 t2) fun v0 =>
 thn (ld1 h v0) fun v1 =>
 Br v1 (
 Q (I 1) h) (
 Q (I 0) h)
) : A19_12 Q t2 h := by intro e he; cases he; exact bF L19 (by kernel_rfl) H
theorem c19 {h : AH} {Q : Value → AH → Prop} {a0 a1 : Value} (H : A19_0 Q a0 a1 undef h) : Cl Pr K 19 [a0, a1] h Q :=
  ok_enter (by kernel_rfl) (by kernel_rfl) (Eq.mp (by kernel_rfl) (H (fun i => ([a0, a1] : List Value).getD i undef) rfl))

/-! ### 20 donjon/note.is: params 1, captured 0, results [tmp 2] -/
noncomputable def L20 : List (Option Nat × List Nat) := [(some 0, [0])]
noncomputable def A20_0 (Q : Value → AH → Prop) (t0 : Value) (h : AH) : Prop := Pt Pr K 20 none (retV Pr 20 Q) 9 [0] [.code (cc 20 2), .code (cc 20 3)] [] [t0] h
theorem b20_0 {h : AH} {Q : Value → AH → Prop} {t0 : Value} (H :
 thn (biI .geq t0 (I 1)) fun v0 =>
 Br v0 (
 thn (biI .lss t0 (I 14)) fun v1 =>
 Q v1 h) (
 Q (.bool false) h)
) : A20_0 Q t0 h := by intro e he; cases he; exact bF L20 (by kernel_rfl) H
theorem c20 {h : AH} {Q : Value → AH → Prop} {a0 : Value} (H : A20_0 Q a0 h) : Cl Pr K 20 [a0] h Q :=
  ok_enter (by kernel_rfl) (by kernel_rfl) (Eq.mp (by kernel_rfl) (H (fun i => ([a0] : List Value).getD i undef) rfl))

/-! ### 21 donjon/place.Check: params 1, captured 0, results [tmp 2] -/
noncomputable def L21 : List (Option Nat × List Nat) := [(some 0, [0]), (some 4, [3, 4, 22, 23]), (some 5, [3, 4, 22, 23]), (some 7, []), (some 8, [3, 4, 22, 23])]
noncomputable def A21_0 (Q : Value → AH → Prop) (t0 : Value) (h : AH) : Prop := Pt Pr K 21 none (retV Pr 21 Q) 40 [0] [.code (cc 21 2), .code (cc 21 3)] [] [t0] h
noncomputable def A21_1 (Q : Value → AH → Prop) (t3 t4 t22 t23 : Value) (h : AH) : Prop := Pt Pr K 21 none (retV Pr 21 Q) 40 [3, 4, 22, 23] [.code (cc 21 1768), .code (cc 21 1769), .inLoop (cc 21 884), .inBlock 0, .code (cc 21 111), .inScope (cc 21 6)] [] [t3, t4, t22, t23] h
noncomputable def A21_2 (Q : Value → AH → Prop) (t3 t4 t22 t23 : Value) (h : AH) : Prop := Pt Pr K 21 none (retV Pr 21 Q) 40 [3, 4, 22, 23] [.code (cc 21 28312), .code (cc 21 28313), .inBlock 1, .code (cc 21 7079), .inLoop (cc 21 884), .inBlock 0, .code (cc 21 111), .inScope (cc 21 6)] [] [t3, t4, t22, t23] h
noncomputable def A21_3 (Q : Value → AH → Prop) (h : AH) : Prop := Pt Pr K 21 none (retV Pr 21 Q) 40 [] [.code (cc 21 226508), .code (cc 21 226509), .inBlock 1, .code (cc 21 7079), .inLoop (cc 21 884), .inBlock 0, .code (cc 21 111), .inScope (cc 21 6)] [] [] h
noncomputable def A21_4 (Q : Value → AH → Prop) (t3 t4 t22 t23 : Value) (h : AH) : Prop := Pt Pr K 21 none (retV Pr 21 Q) 40 [3, 4, 22, 23] [.code (cc 21 7079), .inLoop (cc 21 884), .inBlock 0, .code (cc 21 111), .inScope (cc 21 6)] [] [t3, t4, t22, t23] h
theorem b21_0 {h : AH} {Q : Value → AH → Prop} {t0 : Value} (H :
 thn (blkOf 23 t0) fun b1 =>
 alc h b1 fun p2 h0 =>
 thn (padd 0 (pt p2 0 0)) fun v3 =>
 thn (ld1 h0 v3) fun v4 =>
 thn (padd 1 (pt p2 0 0)) fun v5 =>
 thn (ld1 h0 v5) fun v6 =>
 thn (padd 2 (pt p2 0 0)) fun v7 =>
 thn (ld1 h0 v7) fun v8 =>
 thn (padd 3 (pt p2 0 0)) fun v9 =>
 thn (ld1 h0 v9) fun v10 =>
 thn (padd 4 (pt p2 0 0)) fun v11 =>
 thn (ld1 h0 v11) fun v12 =>
 thn (padd 5 (pt p2 0 0)) fun v13 =>
 thn (ld1 h0 v13) fun v14 =>
 thn (padd 6 (pt p2 0 0)) fun v15 =>
 thn (ld1 h0 v15) fun v16 =>
 thn (fillL [(I 0), (I 0), (I 0), (I 0), (I 0), (I 0), (I 0)] [(0, 1, v4), (1, 1, v6), (2, 1, v8), (3, 1, v10), (4, 1, v12), (5, 1, v14), (6, 1, v16)]) fun c17 =>
 alc h0 (.cells [(I 0), (I 0), (I 0), (I 0), (I 0), (I 0), (I 0)] 46 (0, 0) true) fun p19 h18 =>
 thn (stV h18 7 (pt p19 0 0) (.agg ⟨c17⟩)) fun h20 =>
 thn (ldN h20 7 (.pointer (some ⟨1, 0, none⟩))) fun v21 =>
 A21_1 Q (pt p19 0 0) (I 0) v21 (I 0) h20
) : A21_0 Q t0 h := by intro e he; cases he; exact bF L21 (by kernel_rfl) H
theorem b21_1 {h : AH} {Q : Value → AH → Prop} {t3 t4 t22 t23 : Value} (H :
 thn (biI .lss t23 (I 7)) fun v0 =>
 Br v0 (
 A21_2 Q t3 t4 t22 t23 h) (
 Q t4 h)
) : A21_1 Q t3 t4 t22 t23 h := by intro e he; cases he; exact bF L21 (by kernel_rfl) H
theorem b21_2 {h : AH} {Q : Value → AH → Prop} {t3 t4 t22 t23 : Value} (H :
 thn (at1 7 1 t22 t23) fun v0 =>
 thn (idxA 7 1 t3 t23) fun v1 =>
 thn (ld1 h v1) fun v2 =>
 thn (biI .lss v2 (I 1)) fun v3 =>
 Br v3 (
 Q (I 10) h) (
 thn (idxA 7 1 t3 t23) fun v4 =>
 thn (ld1 h v4) fun v5 =>
 thn (biI .gtr v5 v0) fun v6 =>
 Br v6 (
 A21_3 Q  h) (
 A21_4 Q t3 t4 t22 t23 h))
) : A21_2 Q t3 t4 t22 t23 h := by intro e he; cases he; exact bF L21 (by kernel_rfl) H
theorem b21_3 {h : AH} {Q : Value → AH → Prop} (H :
 Q (I 10) h
) : A21_3 Q  h := by intro e _; exact bF L21 (by kernel_rfl) H
theorem b21_4 {h : AH} {Q : Value → AH → Prop} {t3 t4 t22 t23 : Value} (H :
 thn (biI .add t23 (I 1)) fun v0 =>
 A21_1 Q t3 t4 t22 v0 h
) : A21_4 Q t3 t4 t22 t23 h := by intro e he; cases he; exact bF L21 (by kernel_rfl) H
theorem c21 {h : AH} {Q : Value → AH → Prop} {a0 : Value} (H : A21_0 Q a0 h) : Cl Pr K 21 [a0] h Q :=
  ok_enter (by kernel_rfl) (by kernel_rfl) (Eq.mp (by kernel_rfl) (H (fun i => ([a0] : List Value).getD i undef) rfl))

/-! ### 22 donjon/note.may: params 3, captured 0, results [tmp 6] -/
noncomputable def L22 : List (Option Nat × List Nat) := [(some 0, [0, 1, 2]), (some 4, [2, 3, 7]), (some 6, [2, 3, 7]), (some 8, [2, 3, 7]), (some 10, [2, 3, 7]), (some 12, [2, 3, 7]), (some 14, [2, 3, 7]), (some 16, [2, 3, 7]), (some 23, [2, 3, 7, 72]), (some 17, [2, 3, 7]), (some 19, [2, 3, 7]), (some 21, [2, 3, 7])]
noncomputable def A22_0 (Q : Value → AH → Prop) (t0 t1 t2 : Value) (h : AH) : Prop := Pt Pr K 22 none (retV Pr 22 Q) 99 [0, 1, 2] [.code (cc 22 2), .code (cc 22 3)] [] [t0, t1, t2] h
noncomputable def A22_1 (Q : Value → AH → Prop) (t2 t3 t7 : Value) (h : AH) : Prop := Pt Pr K 22 none (retV Pr 22 Q) 99 [2, 3, 7] [.code (cc 22 214), .code (cc 22 215), .inBlock 0, .code (cc 22 7)] [] [t2, t3, t7] h
noncomputable def A22_2 (Q : Value → AH → Prop) (t2 t3 t7 : Value) (h : AH) : Prop := Pt Pr K 22 none (retV Pr 22 Q) 99 [2, 3, 7] [.code (cc 22 862), .code (cc 22 863), .inBlock 0, .code (cc 22 7)] [] [t2, t3, t7] h
noncomputable def A22_3 (Q : Value → AH → Prop) (t2 t3 t7 : Value) (h : AH) : Prop := Pt Pr K 22 none (retV Pr 22 Q) 99 [2, 3, 7] [.code (cc 22 3454), .code (cc 22 3455), .inBlock 0, .code (cc 22 7)] [] [t2, t3, t7] h
noncomputable def A22_4 (Q : Value → AH → Prop) (t2 t3 t7 : Value) (h : AH) : Prop := Pt Pr K 22 none (retV Pr 22 Q) 99 [2, 3, 7] [.code (cc 22 13822), .code (cc 22 13823), .inBlock 0, .code (cc 22 7)] [] [t2, t3, t7] h
noncomputable def A22_5 (Q : Value → AH → Prop) (t2 t3 t7 : Value) (h : AH) : Prop := Pt Pr K 22 none (retV Pr 22 Q) 99 [2, 3, 7] [.code (cc 22 55294), .code (cc 22 55295), .inBlock 0, .code (cc 22 7)] [] [t2, t3, t7] h
noncomputable def A22_6 (Q : Value → AH → Prop) (t2 t3 t7 : Value) (h : AH) : Prop := Pt Pr K 22 none (retV Pr 22 Q) 99 [2, 3, 7] [.code (cc 22 221182), .code (cc 22 221183), .inBlock 0, .code (cc 22 7)] [] [t2, t3, t7] h
noncomputable def A22_7 (Q : Value → AH → Prop) (t2 t3 t7 : Value) (h : AH) : Prop := Pt Pr K 22 none (retV Pr 22 Q) 99 [2, 3, 7] [.code (cc 22 1769468), .code (cc 22 1769469), .code (cc 22 884735), .inBlock 0, .code (cc 22 7)] [] [t2, t3, t7] h
noncomputable def A22_8 (Q : Value → AH → Prop) (t2 t3 t7 t72 : Value) (h : AH) : Prop := Pt Pr K 22 none (retV Pr 22 Q) 99 [2, 3, 7, 72] [.code (cc 22 884735), .inBlock 0, .code (cc 22 7)] [] [t2, t3, t7, t72] h
noncomputable def A22_9 (Q : Value → AH → Prop) (t2 t3 t7 : Value) (h : AH) : Prop := Pt Pr K 22 none (retV Pr 22 Q) 99 [2, 3, 7] [.code (cc 22 3538939), .code (cc 22 884735), .inBlock 0, .code (cc 22 7)] [] [t2, t3, t7] h
noncomputable def A22_10 (Q : Value → AH → Prop) (t2 t3 t7 : Value) (h : AH) : Prop := Pt Pr K 22 none (retV Pr 22 Q) 99 [2, 3, 7] [.code (cc 22 3538942), .code (cc 22 3538943), .inBlock 0, .code (cc 22 7)] [] [t2, t3, t7] h
noncomputable def A22_11 (Q : Value → AH → Prop) (t2 t3 t7 : Value) (h : AH) : Prop := Pt Pr K 22 none (retV Pr 22 Q) 99 [2, 3, 7] [.code (cc 22 14155774), .code (cc 22 14155775), .inBlock 0, .code (cc 22 7)] [] [t2, t3, t7] h
theorem b22_0 {h : AH} {Q : Value → AH → Prop} {t0 t1 t2 : Value} (H :
 thn (blkOf 23 t0) fun b1 =>
 alc h b1 fun p2 h0 =>
 thn (biI .eql t1 (I 1)) fun v3 =>
 Br v3 (
 thn (biI .geq t2 (I 0)) fun v4 =>
 Br v4 (
 thn (padd 0 (pt p2 0 0)) fun v5 =>
 thn (ld1 h0 v5) fun v6 =>
 thn (biI .lss t2 v6) fun v7 =>
 Q v7 h0) (
 Q (.bool false) h0)) (
 A22_1 Q t2 (pt p2 0 0) t1 h0)
) : A22_0 Q t0 t1 t2 h := by intro e he; cases he; exact bF L22 (by kernel_rfl) H
theorem b22_1 {h : AH} {Q : Value → AH → Prop} {t2 t3 t7 : Value} (H :
 thn (biI .eql t7 (I 2)) fun v0 =>
 Br v0 (
 thn (biI .geq t2 (I 0)) fun v1 =>
 Br v1 (
 thn (ldN h 7 t3) fun v2 =>
 Cl Pr K 33 [v2] h fun v3 h3 => -- donjon/place.Lines
 thn (biI .lss t2 v3) fun v4 =>
 Q v4 h3) (
 Q (.bool false) h)) (
 A22_2 Q t2 t3 t7 h)
) : A22_1 Q t2 t3 t7 h := by intro e he; cases he; exact bF L22 (by kernel_rfl) H
theorem b22_2 {h : AH} {Q : Value → AH → Prop} {t2 t3 t7 : Value} (H :
 thn (biI .eql t7 (I 3)) fun v0 =>
 Br v0 (
 thn (biI .geq t2 (I 0)) fun v1 =>
 Br v1 (
 thn (biI .leq t2 (I 3)) fun v2 =>
 Q v2 h) (
 Q (.bool false) h)) (
 A22_3 Q t2 t3 t7 h)
) : A22_2 Q t2 t3 t7 h := by intro e he; cases he; exact bF L22 (by kernel_rfl) H
theorem b22_3 {h : AH} {Q : Value → AH → Prop} {t2 t3 t7 : Value} (H :
 thn (biI .eql t7 (I 4)) fun v0 =>
 Br v0 (
 thn (biI .geq t2 (I 0)) fun v1 =>
 Br v1 (
 thn (biI .leq t2 (I 4)) fun v2 =>
 Q v2 h) (
 Q (.bool false) h)) (
 A22_4 Q t2 t3 t7 h)
) : A22_3 Q t2 t3 t7 h := by intro e he; cases he; exact bF L22 (by kernel_rfl) H
theorem b22_4 {h : AH} {Q : Value → AH → Prop} {t2 t3 t7 : Value} (H :
 thn (biI .eql t7 (I 5)) fun v0 =>
 Br v0 (
 thn (biI .geq t2 (I 0)) fun v1 =>
 Br v1 (
 thn (biI .leq t2 (I 4)) fun v2 =>
 Q v2 h) (
 Q (.bool false) h)) (
 A22_5 Q t2 t3 t7 h)
) : A22_4 Q t2 t3 t7 h := by intro e he; cases he; exact bF L22 (by kernel_rfl) H
theorem b22_5 {h : AH} {Q : Value → AH → Prop} {t2 t3 t7 : Value} (H :
 thn (biI .eql t7 (I 6)) fun v0 =>
 Br v0 (
 thn (biI .eql t2 (I 1)) fun v1 =>
 Br v1 (
 Q (.bool true) h) (
 thn (biI .eql t2 (I 2)) fun v2 =>
 Br v2 (
 Q (.bool true) h) (
 thn (biI .eql t2 (I 4)) fun v3 =>
 Q v3 h))) (
 A22_6 Q t2 t3 t7 h)
) : A22_5 Q t2 t3 t7 h := by intro e he; cases he; exact bF L22 (by kernel_rfl) H
theorem b22_6 {h : AH} {Q : Value → AH → Prop} {t2 t3 t7 : Value} (H :
 thn (biI .eql t7 (I 7)) fun v0 =>
 Br v0 (
 thn (biI .eql t2 (I 0)) fun v1 =>
 Br v1 (
 Q (.bool true) h) (
 thn (biI .eql t2 (I 1)) fun v2 =>
 Q v2 h)) (
 A22_7 Q t2 t3 t7 h)
) : A22_6 Q t2 t3 t7 h := by intro e he; cases he; exact bF L22 (by kernel_rfl) H
theorem b22_7 {h : AH} {Q : Value → AH → Prop} {t2 t3 t7 : Value} (H :
 thn (biI .eql t7 (I 10)) fun v0 =>
 Br v0 (
 A22_8 Q t2 t3 t7 v0 h) (
 A22_9 Q t2 t3 t7 h)
) : A22_7 Q t2 t3 t7 h := by intro e he; cases he; exact bF L22 (by kernel_rfl) H
theorem b22_8 {h : AH} {Q : Value → AH → Prop} {t2 t3 t7 t72 : Value} (H :
 Br t72 (
 thn (biI .eql t2 (I 0)) fun v0 =>
 Br v0 (
 Q (.bool true) h) (
 thn (biI .eql t2 (I 1)) fun v1 =>
 Q v1 h)) (
 A22_10 Q t2 t3 t7 h)
) : A22_8 Q t2 t3 t7 t72 h := by intro e he; cases he; exact bF L22 (by kernel_rfl) H
theorem b22_9 {h : AH} {Q : Value → AH → Prop} {t2 t3 t7 : Value} (H :
 thn (biI .eql t7 (I 11)) fun v0 =>
 Br v0 (
 thn (biI .eql t2 (I 0)) fun v1 =>
 Br v1 (
 Q (.bool true) h) (
 thn (biI .eql t2 (I 1)) fun v2 =>
 Q v2 h)) (
 A22_10 Q t2 t3 t7 h)
) : A22_9 Q t2 t3 t7 h := by intro e he; cases he; exact bF L22 (by kernel_rfl) H
theorem b22_10 {h : AH} {Q : Value → AH → Prop} {t2 t3 t7 : Value} (H :
 thn (biI .eql t7 (I 12)) fun v0 =>
 Br v0 (
 thn (biI .geq t2 (I 0)) fun v1 =>
 Br v1 (
 thn (biI .lss t2 (I 20)) fun v2 =>
 Q v2 h) (
 Q (.bool false) h)) (
 A22_11 Q t2 t3 t7 h)
) : A22_10 Q t2 t3 t7 h := by intro e he; cases he; exact bF L22 (by kernel_rfl) H
theorem b22_11 {h : AH} {Q : Value → AH → Prop} {t2 t3 t7 : Value} (H :
 thn (biI .eql t7 (I 13)) fun v0 =>
 Br v0 (
 thn (biI .geq t2 (I 0)) fun v1 =>
 Br v1 (
 thn (padd 1 t3) fun v2 =>
 thn (ld1 h v2) fun v3 =>
 thn (biI .lss t2 v3) fun v4 =>
 Q v4 h) (
 Q (.bool false) h)) (
 Q (.bool true) h)
) : A22_11 Q t2 t3 t7 h := by intro e he; cases he; exact bF L22 (by kernel_rfl) H
theorem c22 {h : AH} {Q : Value → AH → Prop} {a0 a1 a2 : Value} (H : A22_0 Q a0 a1 a2 h) : Cl Pr K 22 [a0, a1, a2] h Q :=
  ok_enter (by kernel_rfl) (by kernel_rfl) (Eq.mp (by kernel_rfl) (H (fun i => ([a0, a1, a2] : List Value).getD i undef) rfl))

/-! ### 23 donjon/note.set: params 3, captured 0, results [] -/
noncomputable def L23 : List (Option Nat × List Nat) := [(some 0, [0, 1, 2, 30]), (some 4, [0, 2, 6, 30]), (some 6, [0, 2, 6, 30]), (none, [0, 2, 6, 23, 30]), (some 7, [0, 2, 6]), (some 9, [0, 2, 6, 23]), (some 10, [0, 2, 6, 23]), (some 13, [0, 2, 6]), (some 11, [0, 2, 6]), (some 15, [0, 2, 6]), (some 17, [0, 2, 6])]
noncomputable def A23_0 (Q : Value → AH → Prop) (t0 t1 t2 t30 : Value) (h : AH) : Prop := Pt Pr K 23 none (retV Pr 23 Q) 59 [0, 1, 2, 30] [.code (cc 23 2), .code (cc 23 3)] [] [t0, t1, t2, t30] h
noncomputable def A23_1 (Q : Value → AH → Prop) (t0 t2 t6 t30 : Value) (h : AH) : Prop := Pt Pr K 23 none (retV Pr 23 Q) 59 [0, 2, 6, 30] [.code (cc 23 54), .code (cc 23 55), .inBlock 0] [] [t0, t2, t6, t30] h
noncomputable def A23_2 (Q : Value → AH → Prop) (t0 t2 t6 t30 : Value) (h : AH) : Prop := Pt Pr K 23 none (retV Pr 23 Q) 59 [0, 2, 6, 30] [.code (cc 23 444), .code (cc 23 445), .code (cc 23 223), .inBlock 0] [] [t0, t2, t6, t30] h
noncomputable def A23_3 (Q : Value → AH → Prop) (t0 t2 t6 t23 t30 : Value) (h : AH) : Prop := Pt Pr K 23 none (retV Pr 23 Q) 59 [0, 2, 6, 23, 30] [.code (cc 23 223), .inBlock 0] [] [t0, t2, t6, t23, t30] h
noncomputable def A23_4 (Q : Value → AH → Prop) (t0 t2 t6 : Value) (h : AH) : Prop := Pt Pr K 23 none (retV Pr 23 Q) 59 [0, 2, 6] [.code (cc 23 891), .code (cc 23 223), .inBlock 0] [] [t0, t2, t6] h
noncomputable def A23_5 (Q : Value → AH → Prop) (t0 t2 t6 t23 : Value) (h : AH) : Prop := Pt Pr K 23 none (retV Pr 23 Q) 59 [0, 2, 6, 23] [.code (cc 23 1788), .code (cc 23 1789), .code (cc 23 895), .inBlock 0] [] [t0, t2, t6, t23] h
noncomputable def A23_6 (Q : Value → AH → Prop) (t0 t2 t6 t23 t30 : Value) (h : AH) : Prop := Pt Pr K 23 none (retV Pr 23 Q) 59 [0, 2, 6, 23, 30] [.code (cc 23 895), .inBlock 0] [] [t0, t2, t6, t23, t30] h
noncomputable def A23_7 (Q : Value → AH → Prop) (t0 t2 t6 t23 : Value) (h : AH) : Prop := Pt Pr K 23 none (retV Pr 23 Q) 59 [0, 2, 6, 23] [.code (cc 23 7158), .code (cc 23 7159), .code (cc 23 895), .inBlock 0] [] [t0, t2, t6, t23] h
noncomputable def A23_8 (Q : Value → AH → Prop) (t0 t2 t6 : Value) (h : AH) : Prop := Pt Pr K 23 none (retV Pr 23 Q) 59 [0, 2, 6] [.code (cc 23 3582), .code (cc 23 3583), .inBlock 0] [] [t0, t2, t6] h
noncomputable def A23_9 (Q : Value → AH → Prop) (t0 t2 t6 : Value) (h : AH) : Prop := Pt Pr K 23 none (retV Pr 23 Q) 59 [0, 2, 6] [.code (cc 23 14319), .code (cc 23 895), .inBlock 0] [] [t0, t2, t6] h
noncomputable def A23_10 (Q : Value → AH → Prop) (t0 t2 t6 : Value) (h : AH) : Prop := Pt Pr K 23 none (retV Pr 23 Q) 59 [0, 2, 6] [.code (cc 23 14334), .code (cc 23 14335), .inBlock 0] [] [t0, t2, t6] h
noncomputable def A23_11 (Q : Value → AH → Prop) (t0 t2 t6 : Value) (h : AH) : Prop := Pt Pr K 23 none (retV Pr 23 Q) 59 [0, 2, 6] [.code (cc 23 57342), .code (cc 23 57343), .inBlock 0] [] [t0, t2, t6] h
theorem b23_0 {h : AH} {Q : Value → AH → Prop} {t0 t1 t2 t30 : Value} (H :
 thn (biI .eql t1 (I 1)) fun v0 =>
 Br v0 (
 thn (nilV t0) fun v1 =>
 thn (padd 1 v1) fun v2 =>
 thn (stV h 1 v2 t2) fun h3 =>
 Q (.tuple ⟨[]⟩) h3) (
 A23_1 Q t0 t2 t1 t30 h)
) : A23_0 Q t0 t1 t2 t30 h := by intro e he; cases he; exact bF L23 (by kernel_rfl) H
theorem b23_1 {h : AH} {Q : Value → AH → Prop} {t0 t2 t6 t30 : Value} (H :
 thn (biI .eql t6 (I 2)) fun v0 =>
 Br v0 (
 thn (nilV t0) fun v1 =>
 thn (padd 2 v1) fun v2 =>
 thn (stV h 1 v2 t2) fun h3 =>
 Q (.tuple ⟨[]⟩) h3) (
 A23_2 Q t0 t2 t6 t30 h)
) : A23_1 Q t0 t2 t6 t30 h := by intro e he; cases he; exact bF L23 (by kernel_rfl) H
theorem b23_2 {h : AH} {Q : Value → AH → Prop} {t0 t2 t6 t30 : Value} (H :
 thn (biI .eql t6 (I 3)) fun v0 =>
 Br v0 (
 A23_3 Q t0 t2 t6 v0 t30 h) (
 A23_4 Q t0 t2 t6 h)
) : A23_2 Q t0 t2 t6 t30 h := by intro e he; cases he; exact bF L23 (by kernel_rfl) H
theorem b23_3 {h : AH} {Q : Value → AH → Prop} {t0 t2 t6 t23 t30 : Value} (H :
 Br t23 (
 thn (nilV t0) fun v0 =>
 thn (padd 3 v0) fun v1 =>
 thn (stV h 1 v1 t2) fun h2 =>
 Q (.tuple ⟨[]⟩) h2) (
 A23_5 Q t0 t2 t6 t23 h)
) : A23_3 Q t0 t2 t6 t23 t30 h := by intro e he; cases he; exact bF L23 (by kernel_rfl) H
theorem b23_4 {h : AH} {Q : Value → AH → Prop} {t0 t2 t6 : Value} (H :
 thn (biI .eql t6 (I 4)) fun v0 =>
 Br v0 (
 thn (nilV t0) fun v1 =>
 thn (padd 3 v1) fun v2 =>
 thn (stV h 1 v2 t2) fun h3 =>
 Q (.tuple ⟨[]⟩) h3) (
 A23_5 Q t0 t2 t6 v0 h)
) : A23_4 Q t0 t2 t6 h := by intro e he; cases he; exact bF L23 (by kernel_rfl) H
theorem b23_5 {h : AH} {Q : Value → AH → Prop} {t0 t2 t6 t23 : Value} (H :
 thn (biI .eql t6 (I 5)) fun v0 =>
 Br v0 (
 A23_6 Q t0 t2 t6 t23 v0 h) (
 A23_7 Q t0 t2 t6 t23 h)
) : A23_5 Q t0 t2 t6 t23 h := by intro e he; cases he; exact bF L23 (by kernel_rfl) H
theorem b23_6 {h : AH} {Q : Value → AH → Prop} {t0 t2 t6 t23 t30 : Value} (H :
 Br t30 (
 thn (nilV t0) fun v0 =>
 thn (padd 4 v0) fun v1 =>
 thn (stV h 1 v1 t2) fun h2 =>
 Q (.tuple ⟨[]⟩) h2) (
 A23_8 Q t0 t2 t6 h)
) : A23_6 Q t0 t2 t6 t23 t30 h := by intro e he; cases he; exact bF L23 (by kernel_rfl) H
theorem b23_7 {h : AH} {Q : Value → AH → Prop} {t0 t2 t6 t23 : Value} (H :
 thn (biI .eql t6 (I 6)) fun v0 =>
 Br v0 (
 A23_6 Q t0 t2 t6 t23 v0 h) (
 A23_9 Q t0 t2 t6 h)
) : A23_7 Q t0 t2 t6 t23 h := by intro e he; cases he; exact bF L23 (by kernel_rfl) H
theorem b23_8 {h : AH} {Q : Value → AH → Prop} {t0 t2 t6 : Value} (H :
 thn (biI .eql t6 (I 8)) fun v0 =>
 Br v0 (
 thn (nilV t0) fun v1 =>
 thn (padd 5 v1) fun v2 =>
 thn (idxA 2 1 v2 (I 0)) fun v3 =>
 thn (stV h 1 v3 t2) fun h4 =>
 Q (.tuple ⟨[]⟩) h4) (
 A23_10 Q t0 t2 t6 h)
) : A23_8 Q t0 t2 t6 h := by intro e he; cases he; exact bF L23 (by kernel_rfl) H
theorem b23_9 {h : AH} {Q : Value → AH → Prop} {t0 t2 t6 : Value} (H :
 thn (biI .eql t6 (I 7)) fun v0 =>
 Br v0 (
 thn (nilV t0) fun v1 =>
 thn (padd 4 v1) fun v2 =>
 thn (stV h 1 v2 t2) fun h3 =>
 Q (.tuple ⟨[]⟩) h3) (
 A23_8 Q t0 t2 t6 h)
) : A23_9 Q t0 t2 t6 h := by intro e he; cases he; exact bF L23 (by kernel_rfl) H
theorem b23_10 {h : AH} {Q : Value → AH → Prop} {t0 t2 t6 : Value} (H :
 thn (biI .eql t6 (I 9)) fun v0 =>
 Br v0 (
 thn (nilV t0) fun v1 =>
 thn (padd 5 v1) fun v2 =>
 thn (idxA 2 1 v2 (I 1)) fun v3 =>
 thn (stV h 1 v3 t2) fun h4 =>
 Q (.tuple ⟨[]⟩) h4) (
 A23_11 Q t0 t2 t6 h)
) : A23_10 Q t0 t2 t6 h := by intro e he; cases he; exact bF L23 (by kernel_rfl) H
theorem b23_11 {h : AH} {Q : Value → AH → Prop} {t0 t2 t6 : Value} (H :
 thn (biI .eql t6 (I 10)) fun v0 =>
 Br v0 (
 thn (biI .neq t2 (I 0)) fun v1 =>
 thn (nilV t0) fun v2 =>
 thn (padd 7 v2) fun v3 =>
 thn (stV h 1 v3 v1) fun h4 =>
 Q (.tuple ⟨[]⟩) h4) (
 thn (nilV t0) fun v1 =>
 thn (padd 8 v1) fun v2 =>
 thn (stV h 1 v2 t2) fun h3 =>
 Q (.tuple ⟨[]⟩) h3)
) : A23_11 Q t0 t2 t6 h := by intro e he; cases he; exact bF L23 (by kernel_rfl) H
theorem c23 {h : AH} {Q : Value → AH → Prop} {a0 a1 a2 : Value} (H : A23_0 Q a0 a1 a2 undef h) : Cl Pr K 23 [a0, a1, a2] h Q :=
  ok_enter (by kernel_rfl) (by kernel_rfl) (Eq.mp (by kernel_rfl) (H (fun i => ([a0, a1, a2] : List Value).getD i undef) rfl))

/-! ### 24 donjon/donjonref03.Word: params 1, captured 0, results [tmp 2] -/
noncomputable def L24 : List (Option Nat × List Nat) := [(some 0, [0]), (some 3, [0])]
noncomputable def A24_0 (Q : Value → AH → Prop) (t0 : Value) (h : AH) : Prop := Pt Pr K 24 none (retV Pr 24 Q) 16 [0] [.code (cc 24 2), .code (cc 24 3)] [] [t0] h
noncomputable def A24_1 (Q : Value → AH → Prop) (t0 : Value) (h : AH) : Prop := Pt Pr K 24 none (retV Pr 24 Q) 16 [0] [.code (cc 24 14), .code (cc 24 15)] [] [t0] h
theorem b24_0 {h : AH} {Q : Value → AH → Prop} {t0 : Value} (H :
 thn (biI .lss t0 (I 1)) fun v0 =>
 Br v0 (
 Q (.string ⟨#[]⟩) h) (
 thn (biI .gtr t0 (I 13)) fun v1 =>
 Br v1 (
 Q (.string ⟨#[]⟩) h) (
 A24_1 Q t0 h))
) : A24_0 Q t0 h := by intro e he; cases he; exact bF L24 (by kernel_rfl) H
theorem b24_1 {h : AH} {Q : Value → AH → Prop} {t0 : Value} (H :
 thn (fillL [(.string ⟨#[]⟩), (.string ⟨#[]⟩), (.string ⟨#[]⟩), (.string ⟨#[]⟩), (.string ⟨#[]⟩), (.string ⟨#[]⟩), (.string ⟨#[]⟩), (.string ⟨#[]⟩), (.string ⟨#[]⟩), (.string ⟨#[]⟩), (.string ⟨#[]⟩), (.string ⟨#[]⟩), (.string ⟨#[]⟩)] [(0, 1, (.string ⟨#[103, 101, 116, 115]⟩)), (1, 1, (.string ⟨#[103, 101, 116, 109]⟩)), (2, 1, (.string ⟨#[112, 117, 116]⟩)), (3, 1, (.string ⟨#[100, 111, 110, 101]⟩)), (4, 1, (.string ⟨#[114, 101, 112, 108, 121]⟩)), (5, 1, (.string ⟨#[119, 97, 108, 107]⟩)), (6, 1, (.string ⟨#[100, 114, 111, 112, 112, 101, 100]⟩)), (7, 1, (.string ⟨#[103, 114, 97, 110, 116]⟩)), (8, 1, (.string ⟨#[110, 97, 99, 107]⟩)), (9, 1, (.string ⟨#[112, 117, 116, 97, 99, 107]⟩)), (10, 1, (.string ⟨#[112, 114, 111, 98, 101]⟩)), (11, 1, (.string ⟨#[119, 97, 108, 107, 101, 100]⟩)), (12, 1, (.string ⟨#[100, 114, 111, 112]⟩))]) fun l1 =>
 alcS h 1 9 l1 13 13 fun s2 h0 =>
 thn (biI .sub t0 (I 1)) fun v3 =>
 thn (idxS 1 s2 v3) fun v4 =>
 thn (ld1 h0 v4) fun v5 =>
 Q v5 h0
) : A24_1 Q t0 h := by intro e he; cases he; exact bF L24 (by kernel_rfl) H
theorem c24 {h : AH} {Q : Value → AH → Prop} {a0 : Value} (H : A24_0 Q a0 h) : Cl Pr K 24 [a0] h Q :=
  ok_enter (by kernel_rfl) (by kernel_rfl) (Eq.mp (by kernel_rfl) (H (fun i => ([a0] : List Value).getD i undef) rfl))

/-! ### 25 donjon/donjonref03.Numbers: params 1, captured 0, results [tmp 2] -/
noncomputable def L25 : List (Option Nat × List Nat) := [(some 0, [0, 45]), (some 4, [1, 3, 4, 5, 45]), (some 6, [1, 3, 4, 5, 45]), (some 9, [1, 3, 4, 5, 45]), (some 10, [1, 3, 4, 5, 17, 45]), (some 11, [1, 3, 4, 5, 45]), (some 12, [1, 3, 4, 5, 17, 45]), (some 5, [1, 3, 4, 5, 17, 37, 45]), (some 13, [1, 3, 4, 5, 17, 45]), (some 14, [1, 3, 4, 5, 45]), (some 15, [1, 3, 4, 5, 17, 37]), (some 16, [1, 3, 4, 5, 17, 37]), (some 18, [1, 3, 4, 5, 45]), (some 19, [1, 3, 4, 5, 17, 45]), (some 17, [1, 3, 4, 5, 17]), (some 20, [1, 3, 4, 5, 45]), (some 21, [1, 3, 4, 5, 17, 45]), (some 22, [1, 3, 4, 5, 45]), (some 7, [1, 3, 4, 5, 45]), (some 23, [1, 3, 4, 5, 45]), (some 24, [1, 3, 4, 5, 45])]
noncomputable def A25_0 (Q : Value → AH → Prop) (t0 t45 : Value) (h : AH) : Prop := Pt Pr K 25 none (retV Pr 25 Q) 76 [0, 45] [.code (cc 25 2), .code (cc 25 3)] [] [t0, t45] h
noncomputable def A25_1 (Q : Value → AH → Prop) (t1 t3 t4 t5 t45 : Value) (h : AH) : Prop := Pt Pr K 25 none (retV Pr 25 Q) 76 [1, 3, 4, 5, 45] [.code (cc 25 976), .code (cc 25 977), .code (cc 25 489), .inLoop (cc 25 244), .inBlock 0, .code (cc 25 31)] [] [t1, t3, t4, t5, t45] h
noncomputable def A25_2 (Q : Value → AH → Prop) (t1 t3 t4 t5 t45 : Value) (h : AH) : Prop := Pt Pr K 25 none (retV Pr 25 Q) 76 [1, 3, 4, 5, 45] [.code (cc 25 3912), .code (cc 25 3913), .inBlock 1, .code (cc 25 979), .inLoop (cc 25 244), .inBlock 0, .code (cc 25 31)] [] [t1, t3, t4, t5, t45] h
noncomputable def A25_3 (Q : Value → AH → Prop) (t1 t3 t4 t5 t45 : Value) (h : AH) : Prop := Pt Pr K 25 none (retV Pr 25 Q) 76 [1, 3, 4, 5, 45] [.code (cc 25 31306), .inBlock 2, .inBlock 1, .code (cc 25 979), .inLoop (cc 25 244), .inBlock 0, .code (cc 25 31)] [] [t1, t3, t4, t5, t45] h
noncomputable def A25_4 (Q : Value → AH → Prop) (t1 t3 t4 t5 t17 t45 : Value) (h : AH) : Prop := Pt Pr K 25 none (retV Pr 25 Q) 76 [1, 3, 4, 5, 17, 45] [.code (cc 25 62614), .code (cc 25 62615), .inBlock 2, .inBlock 1, .code (cc 25 979), .inLoop (cc 25 244), .inBlock 0, .code (cc 25 31)] [] [t1, t3, t4, t5, t17, t45] h
noncomputable def A25_5 (Q : Value → AH → Prop) (t1 t3 t4 t5 t45 : Value) (h : AH) : Prop := Pt Pr K 25 none (retV Pr 25 Q) 76 [1, 3, 4, 5, 45] [.code (cc 25 125230), .inBlock 2, .inBlock 1, .code (cc 25 979), .inLoop (cc 25 244), .inBlock 0, .code (cc 25 31)] [] [t1, t3, t4, t5, t45] h
noncomputable def A25_6 (Q : Value → AH → Prop) (t1 t3 t4 t5 t17 t45 : Value) (h : AH) : Prop := Pt Pr K 25 none (retV Pr 25 Q) 76 [1, 3, 4, 5, 17, 45] [.code (cc 25 500924), .code (cc 25 500925), .code (cc 25 250463), .inBlock 2, .inBlock 1, .code (cc 25 979), .inLoop (cc 25 244), .inBlock 0, .code (cc 25 31)] [] [t1, t3, t4, t5, t17, t45] h
noncomputable def A25_7 (Q : Value → AH → Prop) (t1 t3 t4 t5 t17 t37 t45 : Value) (h : AH) : Prop := Pt Pr K 25 none (retV Pr 25 Q) 76 [1, 3, 4, 5, 17, 37, 45] [.code (cc 25 250463), .inBlock 2, .inBlock 1, .code (cc 25 979), .inLoop (cc 25 244), .inBlock 0, .code (cc 25 31)] [] [t1, t3, t4, t5, t17, t37, t45] h
noncomputable def A25_8 (Q : Value → AH → Prop) (t1 t3 t4 t5 t17 t45 : Value) (h : AH) : Prop := Pt Pr K 25 none (retV Pr 25 Q) 76 [1, 3, 4, 5, 17, 45] [.code (cc 25 1001851), .code (cc 25 250463), .inBlock 2, .inBlock 1, .code (cc 25 979), .inLoop (cc 25 244), .inBlock 0, .code (cc 25 31)] [] [t1, t3, t4, t5, t17, t45] h
noncomputable def A25_9 (Q : Value → AH → Prop) (t1 t3 t4 t5 t45 : Value) (h : AH) : Prop := Pt Pr K 25 none (retV Pr 25 Q) 76 [1, 3, 4, 5, 45] [.code (cc 25 500926), .inBlock 2, .inBlock 1, .code (cc 25 979), .inLoop (cc 25 244), .inBlock 0, .code (cc 25 31)] [] [t1, t3, t4, t5, t45] h
noncomputable def A25_10 (Q : Value → AH → Prop) (t1 t3 t4 t5 t17 t37 : Value) (h : AH) : Prop := Pt Pr K 25 none (retV Pr 25 Q) 76 [1, 3, 4, 5, 17, 37] [.code (cc 25 2003708), .code (cc 25 2003709), .code (cc 25 1001855), .inBlock 2, .inBlock 1, .code (cc 25 979), .inLoop (cc 25 244), .inBlock 0, .code (cc 25 31)] [] [t1, t3, t4, t5, t17, t37] h
noncomputable def A25_11 (Q : Value → AH → Prop) (t1 t3 t4 t5 t17 t37 t45 : Value) (h : AH) : Prop := Pt Pr K 25 none (retV Pr 25 Q) 76 [1, 3, 4, 5, 17, 37, 45] [.code (cc 25 1001855), .inBlock 2, .inBlock 1, .code (cc 25 979), .inLoop (cc 25 244), .inBlock 0, .code (cc 25 31)] [] [t1, t3, t4, t5, t17, t37, t45] h
noncomputable def A25_12 (Q : Value → AH → Prop) (t1 t3 t4 t5 t17 t37 : Value) (h : AH) : Prop := Pt Pr K 25 none (retV Pr 25 Q) 76 [1, 3, 4, 5, 17, 37] [.code (cc 25 8014838), .code (cc 25 8014839), .code (cc 25 1001855), .inBlock 2, .inBlock 1, .code (cc 25 979), .inLoop (cc 25 244), .inBlock 0, .code (cc 25 31)] [] [t1, t3, t4, t5, t17, t37] h
noncomputable def A25_13 (Q : Value → AH → Prop) (t1 t3 t4 t5 t45 : Value) (h : AH) : Prop := Pt Pr K 25 none (retV Pr 25 Q) 76 [1, 3, 4, 5, 45] [.code (cc 25 2003710), .inBlock 2, .inBlock 1, .code (cc 25 979), .inLoop (cc 25 244), .inBlock 0, .code (cc 25 31)] [] [t1, t3, t4, t5, t45] h
noncomputable def A25_14 (Q : Value → AH → Prop) (t1 t3 t4 t5 t17 t45 : Value) (h : AH) : Prop := Pt Pr K 25 none (retV Pr 25 Q) 76 [1, 3, 4, 5, 17, 45] [.code (cc 25 4007422), .code (cc 25 4007423), .inBlock 2, .inBlock 1, .code (cc 25 979), .inLoop (cc 25 244), .inBlock 0, .code (cc 25 31)] [] [t1, t3, t4, t5, t17, t45] h
noncomputable def A25_15 (Q : Value → AH → Prop) (t1 t3 t4 t5 t17 : Value) (h : AH) : Prop := Pt Pr K 25 none (retV Pr 25 Q) 76 [1, 3, 4, 5, 17] [.code (cc 25 16029679), .code (cc 25 1001855), .inBlock 2, .inBlock 1, .code (cc 25 979), .inLoop (cc 25 244), .inBlock 0, .code (cc 25 31)] [] [t1, t3, t4, t5, t17] h
noncomputable def A25_16 (Q : Value → AH → Prop) (t1 t3 t4 t5 t45 : Value) (h : AH) : Prop := Pt Pr K 25 none (retV Pr 25 Q) 76 [1, 3, 4, 5, 45] [.code (cc 25 8014846), .inBlock 2, .inBlock 1, .code (cc 25 979), .inLoop (cc 25 244), .inBlock 0, .code (cc 25 31)] [] [t1, t3, t4, t5, t45] h
noncomputable def A25_17 (Q : Value → AH → Prop) (t1 t3 t4 t5 t17 t45 : Value) (h : AH) : Prop := Pt Pr K 25 none (retV Pr 25 Q) 76 [1, 3, 4, 5, 17, 45] [.code (cc 25 16029694), .code (cc 25 16029695), .inBlock 2, .inBlock 1, .code (cc 25 979), .inLoop (cc 25 244), .inBlock 0, .code (cc 25 31)] [] [t1, t3, t4, t5, t17, t45] h
noncomputable def A25_18 (Q : Value → AH → Prop) (t1 t3 t4 t5 t45 : Value) (h : AH) : Prop := Pt Pr K 25 none (retV Pr 25 Q) 76 [1, 3, 4, 5, 45] [.code (cc 25 64118780), .code (cc 25 64118781), .inBlock 2, .inBlock 1, .code (cc 25 979), .inLoop (cc 25 244), .inBlock 0, .code (cc 25 31)] [] [t1, t3, t4, t5, t45] h
noncomputable def A25_19 (Q : Value → AH → Prop) (t1 t3 t4 t5 t45 : Value) (h : AH) : Prop := Pt Pr K 25 none (retV Pr 25 Q) 76 [1, 3, 4, 5, 45] [.code (cc 25 32059391), .inBlock 2, .inBlock 1, .code (cc 25 979), .inLoop (cc 25 244), .inBlock 0, .code (cc 25 31)] [] [t1, t3, t4, t5, t45] h
noncomputable def A25_20 (Q : Value → AH → Prop) (t1 t3 t4 t5 t45 : Value) (h : AH) : Prop := Pt Pr K 25 none (retV Pr 25 Q) 76 [1, 3, 4, 5, 45] [.code (cc 25 128237562), .inBlock 2, .inBlock 1, .code (cc 25 979), .inLoop (cc 25 244), .inBlock 0, .code (cc 25 31)] [] [t1, t3, t4, t5, t45] h
noncomputable def A25_21 (Q : Value → AH → Prop) (t1 t3 t4 t5 t45 : Value) (h : AH) : Prop := Pt Pr K 25 none (retV Pr 25 Q) 76 [1, 3, 4, 5, 45] [.code (cc 25 128237563), .inBlock 2, .inBlock 1, .code (cc 25 979), .inLoop (cc 25 244), .inBlock 0, .code (cc 25 31)] [] [t1, t3, t4, t5, t45] h
theorem b25_0 {h : AH} {Q : Value → AH → Prop} {t0 t45 : Value} (H :
 thn (blkOf 27 t0) fun b1 =>
 alc h b1 fun p2 h0 =>
 thn (padd 0 (pt p2 0 0)) fun v3 =>
 thn (ld1 h0 v3) fun v4 =>
 Cl Pr K 28 [v4] h0 fun v5 h5 => -- donjon/donjonref03.Fields
 A25_1 Q (pt p2 0 0) v5 (.slice none 0 0) (I 0) t45 h5
) : A25_0 Q t0 t45 h := by intro e he; cases he; exact bF L25 (by kernel_rfl) H
theorem b25_1 {h : AH} {Q : Value → AH → Prop} {t1 t3 t4 t5 t45 : Value} (H :
 thn (lenT t3) fun v0 =>
 thn (biI .lss t5 v0) fun v1 =>
 Br v1 (
 A25_2 Q t1 t3 t4 t5 t45 h) (
 Q t4 h)
) : A25_1 Q t1 t3 t4 t5 t45 h := by intro e he; cases he; exact bF L25 (by kernel_rfl) H
theorem b25_2 {h : AH} {Q : Value → AH → Prop} {t1 t3 t4 t5 t45 : Value} (H :
 thn (atS t3 t5) fun v0 =>
 thn (biI .eql v0 (.int .u8 99)) fun v1 =>
 Br v1 (
 A25_3 Q t1 t3 t4 t5 t45 h) (
 A25_4 Q t1 t3 t4 t5 v0 t45 h)
) : A25_2 Q t1 t3 t4 t5 t45 h := by intro e he; cases he; exact bF L25 (by kernel_rfl) H
theorem b25_3 {h : AH} {Q : Value → AH → Prop} {t1 t3 t4 t5 t45 : Value} (H :
 thn (padd 1 t1) fun v0 =>
 thn (ld1 h v0) fun v1 =>
 thn (fillL [(I 0)] [(0, 1, v1)]) fun l3 =>
 alcS h 1 3 l3 1 1 fun s4 h2 =>
 thn (appV 1 8 3 h2 t4 s4) fun r5 => (fun v6 h7 =>
 thn (biI .add t5 (I 1)) fun v8 =>
 A25_1 Q t1 t3 v6 v8 t45 h7) r5.1 r5.2
) : A25_3 Q t1 t3 t4 t5 t45 h := by intro e he; cases he; exact bF L25 (by kernel_rfl) H
theorem b25_4 {h : AH} {Q : Value → AH → Prop} {t1 t3 t4 t5 t17 t45 : Value} (H :
 thn (biI .eql t17 (.int .u8 108)) fun v0 =>
 Br v0 (
 A25_5 Q t1 t3 t4 t5 t45 h) (
 A25_6 Q t1 t3 t4 t5 t17 t45 h)
) : A25_4 Q t1 t3 t4 t5 t17 t45 h := by intro e he; cases he; exact bF L25 (by kernel_rfl) H
theorem b25_5 {h : AH} {Q : Value → AH → Prop} {t1 t3 t4 t5 t45 : Value} (H :
 thn (padd 2 t1) fun v0 =>
 thn (ld1 h v0) fun v1 =>
 thn (fillL [(I 0)] [(0, 1, v1)]) fun l3 =>
 alcS h 1 3 l3 1 1 fun s4 h2 =>
 thn (appV 1 8 3 h2 t4 s4) fun r5 => (fun v6 h7 =>
 thn (biI .add t5 (I 1)) fun v8 =>
 A25_1 Q t1 t3 v6 v8 t45 h7) r5.1 r5.2
) : A25_5 Q t1 t3 t4 t5 t45 h := by intro e he; cases he; exact bF L25 (by kernel_rfl) H
theorem b25_6 {h : AH} {Q : Value → AH → Prop} {t1 t3 t4 t5 t17 t45 : Value} (H :
 thn (biI .eql t17 (.int .u8 119)) fun v0 =>
 Br v0 (
 A25_7 Q t1 t3 t4 t5 t17 v0 t45 h) (
 A25_8 Q t1 t3 t4 t5 t17 t45 h)
) : A25_6 Q t1 t3 t4 t5 t17 t45 h := by intro e he; cases he; exact bF L25 (by kernel_rfl) H
theorem b25_7 {h : AH} {Q : Value → AH → Prop} {t1 t3 t4 t5 t17 t37 t45 : Value} (H :
 Br t37 (
 A25_9 Q t1 t3 t4 t5 t45 h) (
 A25_10 Q t1 t3 t4 t5 t17 t37 h)
) : A25_7 Q t1 t3 t4 t5 t17 t37 t45 h := by intro e he; cases he; exact bF L25 (by kernel_rfl) H
theorem b25_8 {h : AH} {Q : Value → AH → Prop} {t1 t3 t4 t5 t17 t45 : Value} (H :
 thn (biI .eql t17 (.int .u8 116)) fun v0 =>
 Br v0 (
 A25_9 Q t1 t3 t4 t5 t45 h) (
 A25_10 Q t1 t3 t4 t5 t17 v0 h)
) : A25_8 Q t1 t3 t4 t5 t17 t45 h := by intro e he; cases he; exact bF L25 (by kernel_rfl) H
theorem b25_9 {h : AH} {Q : Value → AH → Prop} {t1 t3 t4 t5 t45 : Value} (H :
 thn (padd 3 t1) fun v0 =>
 thn (ld1 h v0) fun v1 =>
 thn (fillL [(I 0)] [(0, 1, v1)]) fun l3 =>
 alcS h 1 3 l3 1 1 fun s4 h2 =>
 thn (appV 1 8 3 h2 t4 s4) fun r5 => (fun v6 h7 =>
 thn (biI .add t5 (I 1)) fun v8 =>
 A25_1 Q t1 t3 v6 v8 t45 h7) r5.1 r5.2
) : A25_9 Q t1 t3 t4 t5 t45 h := by intro e he; cases he; exact bF L25 (by kernel_rfl) H
theorem b25_10 {h : AH} {Q : Value → AH → Prop} {t1 t3 t4 t5 t17 t37 : Value} (H :
 thn (biI .eql t17 (.int .u8 115)) fun v0 =>
 Br v0 (
 A25_11 Q t1 t3 t4 t5 t17 t37 v0 h) (
 A25_12 Q t1 t3 t4 t5 t17 t37 h)
) : A25_10 Q t1 t3 t4 t5 t17 t37 h := by intro e he; cases he; exact bF L25 (by kernel_rfl) H
theorem b25_11 {h : AH} {Q : Value → AH → Prop} {t1 t3 t4 t5 t17 t37 t45 : Value} (H :
 Br t45 (
 A25_13 Q t1 t3 t4 t5 t45 h) (
 A25_14 Q t1 t3 t4 t5 t17 t45 h)
) : A25_11 Q t1 t3 t4 t5 t17 t37 t45 h := by intro e he; cases he; exact bF L25 (by kernel_rfl) H
theorem b25_12 {h : AH} {Q : Value → AH → Prop} {t1 t3 t4 t5 t17 t37 : Value} (H :
 thn (biI .eql t17 (.int .u8 103)) fun v0 =>
 Br v0 (
 A25_11 Q t1 t3 t4 t5 t17 t37 v0 h) (
 A25_15 Q t1 t3 t4 t5 t17 h)
) : A25_12 Q t1 t3 t4 t5 t17 t37 h := by intro e he; cases he; exact bF L25 (by kernel_rfl) H
theorem b25_13 {h : AH} {Q : Value → AH → Prop} {t1 t3 t4 t5 t45 : Value} (H :
 thn (padd 4 t1) fun v0 =>
 thn (ld1 h v0) fun v1 =>
 thn (fillL [(I 0)] [(0, 1, v1)]) fun l3 =>
 alcS h 1 3 l3 1 1 fun s4 h2 =>
 thn (appV 1 8 3 h2 t4 s4) fun r5 => (fun v6 h7 =>
 thn (biI .add t5 (I 1)) fun v8 =>
 A25_1 Q t1 t3 v6 v8 t45 h7) r5.1 r5.2
) : A25_13 Q t1 t3 t4 t5 t45 h := by intro e he; cases he; exact bF L25 (by kernel_rfl) H
theorem b25_14 {h : AH} {Q : Value → AH → Prop} {t1 t3 t4 t5 t17 t45 : Value} (H :
 thn (biI .eql t17 (.int .u8 100)) fun v0 =>
 Br v0 (
 A25_16 Q t1 t3 t4 t5 t45 h) (
 A25_17 Q t1 t3 t4 t5 t17 t45 h)
) : A25_14 Q t1 t3 t4 t5 t17 t45 h := by intro e he; cases he; exact bF L25 (by kernel_rfl) H
theorem b25_15 {h : AH} {Q : Value → AH → Prop} {t1 t3 t4 t5 t17 : Value} (H :
 thn (biI .eql t17 (.int .u8 111)) fun v0 =>
 Br v0 (
 A25_13 Q t1 t3 t4 t5 v0 h) (
 A25_14 Q t1 t3 t4 t5 t17 v0 h)
) : A25_15 Q t1 t3 t4 t5 t17 h := by intro e he; cases he; exact bF L25 (by kernel_rfl) H
theorem b25_16 {h : AH} {Q : Value → AH → Prop} {t1 t3 t4 t5 t45 : Value} (H :
 thn (padd 5 t1) fun v0 =>
 thn (idxA 2 1 v0 (I 0)) fun v1 =>
 thn (ld1 h v1) fun v2 =>
 thn (padd 5 t1) fun v3 =>
 thn (idxA 2 1 v3 (I 1)) fun v4 =>
 thn (ld1 h v4) fun v5 =>
 thn (fillL [(I 0), (I 0)] [(0, 1, v2), (1, 1, v5)]) fun l7 =>
 alcS h 1 3 l7 2 2 fun s8 h6 =>
 thn (appV 1 8 3 h6 t4 s8) fun r9 => (fun v10 h11 =>
 thn (biI .add t5 (I 1)) fun v12 =>
 A25_1 Q t1 t3 v10 v12 t45 h11) r9.1 r9.2
) : A25_16 Q t1 t3 t4 t5 t45 h := by intro e he; cases he; exact bF L25 (by kernel_rfl) H
theorem b25_17 {h : AH} {Q : Value → AH → Prop} {t1 t3 t4 t5 t17 t45 : Value} (H :
 thn (biI .eql t17 (.int .u8 120)) fun v0 =>
 Br v0 (
 A25_18 Q t1 t3 t4 t5 t45 h) (
 A25_19 Q t1 t3 t4 t5 t45 h)
) : A25_17 Q t1 t3 t4 t5 t17 t45 h := by intro e he; cases he; exact bF L25 (by kernel_rfl) H
theorem b25_18 {h : AH} {Q : Value → AH → Prop} {t1 t3 t4 t5 t45 : Value} (H :
 thn (padd 7 t1) fun v0 =>
 thn (ld1 h v0) fun v1 =>
 Br v1 (
 A25_20 Q t1 t3 t4 t5 t45 h) (
 A25_21 Q t1 t3 t4 t5 t45 h)
) : A25_18 Q t1 t3 t4 t5 t45 h := by intro e he; cases he; exact bF L25 (by kernel_rfl) H
theorem b25_19 {h : AH} {Q : Value → AH → Prop} {t1 t3 t4 t5 t45 : Value} (H :
 thn (padd 8 t1) fun v0 =>
 thn (ld1 h v0) fun v1 =>
 thn (fillL [(I 0)] [(0, 1, v1)]) fun l3 =>
 alcS h 1 3 l3 1 1 fun s4 h2 =>
 thn (appV 1 8 3 h2 t4 s4) fun r5 => (fun v6 h7 =>
 thn (biI .add t5 (I 1)) fun v8 =>
 A25_1 Q t1 t3 v6 v8 t45 h7) r5.1 r5.2
) : A25_19 Q t1 t3 t4 t5 t45 h := by intro e he; cases he; exact bF L25 (by kernel_rfl) H
theorem b25_20 {h : AH} {Q : Value → AH → Prop} {t1 t3 t4 t5 t45 : Value} (H :
 thn (fillL [(I 0)] [(0, 1, (I 1))]) fun l1 =>
 alcS h 1 3 l1 1 1 fun s2 h0 =>
 thn (appV 1 8 3 h0 t4 s2) fun r3 => (fun v4 h5 =>
 thn (biI .add t5 (I 1)) fun v6 =>
 A25_1 Q t1 t3 v4 v6 t45 h5) r3.1 r3.2
) : A25_20 Q t1 t3 t4 t5 t45 h := by intro e he; cases he; exact bF L25 (by kernel_rfl) H
theorem b25_21 {h : AH} {Q : Value → AH → Prop} {t1 t3 t4 t5 t45 : Value} (H :
 thn (fillL [(I 0)] [(0, 1, (I 0))]) fun l1 =>
 alcS h 1 3 l1 1 1 fun s2 h0 =>
 thn (appV 1 8 3 h0 t4 s2) fun r3 => (fun v4 h5 =>
 thn (biI .add t5 (I 1)) fun v6 =>
 A25_1 Q t1 t3 v4 v6 t45 h5) r3.1 r3.2
) : A25_21 Q t1 t3 t4 t5 t45 h := by intro e he; cases he; exact bF L25 (by kernel_rfl) H
theorem c25 {h : AH} {Q : Value → AH → Prop} {a0 : Value} (H : A25_0 Q a0 undef h) : Cl Pr K 25 [a0] h Q :=
  ok_enter (by kernel_rfl) (by kernel_rfl) (Eq.mp (by kernel_rfl) (H (fun i => ([a0] : List Value).getD i undef) rfl))

/-! ### 26 donjon/donjonref03.Decimal: params 1, captured 0, results [tmp 2] -/
noncomputable def L26 : List (Option Nat × List Nat) := [(some 0, [0]), (some 2, [0]), (some 5, [0]), (some 7, [0, 3])]
noncomputable def A26_0 (Q : Value → AH → Prop) (t0 : Value) (h : AH) : Prop := Pt Pr K 26 none (retV Pr 26 Q) 34 [0] [.code (cc 26 2), .code (cc 26 3)] [] [t0] h
noncomputable def A26_1 (Q : Value → AH → Prop) (t0 : Value) (h : AH) : Prop := Pt Pr K 26 none (retV Pr 26 Q) 34 [0] [.code (cc 26 104), .code (cc 26 105), .code (cc 26 53), .code (cc 26 7)] [] [t0] h
noncomputable def A26_2 (Q : Value → AH → Prop) (t0 : Value) (h : AH) : Prop := Pt Pr K 26 none (retV Pr 26 Q) 34 [0] [.code (cc 26 14), .code (cc 26 15)] [] [t0] h
noncomputable def A26_3 (Q : Value → AH → Prop) (t0 t3 : Value) (h : AH) : Prop := Pt Pr K 26 none (retV Pr 26 Q) 34 [0, 3] [.code (cc 26 122), .code (cc 26 31)] [] [t0, t3] h
theorem b26_0 {h : AH} {Q : Value → AH → Prop} {t0 : Value} (H :
 thn (biI .lss t0 (I 0)) fun v0 =>
 Br v0 (
 A26_1 Q t0 h) (
 A26_2 Q t0 h)
) : A26_0 Q t0 h := by intro e he; cases he; exact bF L26 (by kernel_rfl) H
theorem b26_1 {h : AH} {Q : Value → AH → Prop} {t0 : Value} (H :
 thn (biI .gtr t0 (I (-10))) fun v0 =>
 Br v0 (
 thn (unV .neg t0) fun v1 =>
 Cl Pr K 26 [v1] h fun v2 h2 => -- donjon/donjonref03.Decimal
 thn (biT .add (.string ⟨#[45]⟩) v2) fun v3 =>
 Q v3 h2) (
 thn (biI .quo t0 (I 10)) fun v1 =>
 Cl Pr K 26 [v1] h fun v2 h2 => -- donjon/donjonref03.Decimal
 thn (biI .rem t0 (I 10)) fun v3 =>
 thn (unV .neg v3) fun v4 =>
 Cl Pr K 26 [v4] h2 fun v5 h5 => -- donjon/donjonref03.Decimal
 thn (biT .add v2 v5) fun v6 =>
 Q v6 h5)
) : A26_1 Q t0 h := by intro e he; cases he; exact bF L26 (by kernel_rfl) H
theorem b26_2 {h : AH} {Q : Value → AH → Prop} {t0 : Value} (H :
 thn (biI .rem t0 (I 10)) fun v0 =>
 thn (biI .add (I 48) v0) fun v1 =>
 thn (convI .u8 v1) fun v2 =>
 thn (fillL [(.int .u8 0)] [(0, 1, v2)]) fun l4 =>
 alcS h 1 5 l4 1 1 fun s5 h3 =>
 thn (strOf h3 s5) fun v6 =>
 thn (biI .gtr t0 (I 9)) fun v7 =>
 Br v7 (
 A26_3 Q t0 v6 h3) (
 Q v6 h3)
) : A26_2 Q t0 h := by intro e he; cases he; exact bF L26 (by kernel_rfl) H
theorem b26_3 {h : AH} {Q : Value → AH → Prop} {t0 t3 : Value} (H :
 thn (biI .quo t0 (I 10)) fun v0 =>
 Cl Pr K 26 [v0] h fun v1 h1 => -- donjon/donjonref03.Decimal
 thn (biT .add v1 t3) fun v2 =>
 Q v2 h1
) : A26_3 Q t0 t3 h := by intro e he; cases he; exact bF L26 (by kernel_rfl) H
theorem c26 {h : AH} {Q : Value → AH → Prop} {a0 : Value} (H : A26_0 Q a0 h) : Cl Pr K 26 [a0] h Q :=
  ok_enter (by kernel_rfl) (by kernel_rfl) (Eq.mp (by kernel_rfl) (H (fun i => ([a0] : List Value).getD i undef) rfl))

/-! ### 27 donjon/donjonref01.May: params 1, captured 0, results [tmp 2] -/
noncomputable def L27 : List (Option Nat × List Nat) := [(some 0, [0]), (some 3, [1, 3, 4]), (some 5, [1, 3, 4]), (some 4, [1, 3, 4])]
noncomputable def A27_0 (Q : Value → AH → Prop) (t0 : Value) (h : AH) : Prop := Pt Pr K 27 none (retV Pr 27 Q) 24 [0] [.code (cc 27 2), .code (cc 27 3)] [] [t0] h
noncomputable def A27_1 (Q : Value → AH → Prop) (t1 t3 t4 : Value) (h : AH) : Prop := Pt Pr K 27 none (retV Pr 27 Q) 24 [1, 3, 4] [.code (cc 27 464), .code (cc 27 465), .code (cc 27 233), .inLoop (cc 27 116), .inBlock 0, .code (cc 27 15)] [] [t1, t3, t4] h
noncomputable def A27_2 (Q : Value → AH → Prop) (t1 t3 t4 : Value) (h : AH) : Prop := Pt Pr K 27 none (retV Pr 27 Q) 24 [1, 3, 4] [.code (cc 27 1864), .code (cc 27 1865), .inBlock 1, .code (cc 27 467), .inLoop (cc 27 116), .inBlock 0, .code (cc 27 15)] [] [t1, t3, t4] h
noncomputable def A27_3 (Q : Value → AH → Prop) (t1 t3 t4 : Value) (h : AH) : Prop := Pt Pr K 27 none (retV Pr 27 Q) 24 [1, 3, 4] [.code (cc 27 467), .inLoop (cc 27 116), .inBlock 0, .code (cc 27 15)] [] [t1, t3, t4] h
theorem b27_0 {h : AH} {Q : Value → AH → Prop} {t0 : Value} (H :
 thn (blkOf 46 t0) fun b1 =>
 alc h b1 fun p2 h0 =>
 thn (fillL [(I 0), (I 0), (I 0), (I 0), (I 0), (I 0), (I 0)] [(0, 1, (I 4)), (1, 1, (I 16)), (2, 1, (I 8)), (3, 1, (I 4)), (4, 1, (I 16)), (5, 1, (I 8)), (6, 1, (I 4))]) fun l4 =>
 alcS h0 1 3 l4 7 7 fun s5 h3 =>
 A27_1 Q (pt p2 0 0) s5 (I 0) h3
) : A27_0 Q t0 h := by intro e he; cases he; exact bF L27 (by kernel_rfl) H
theorem b27_1 {h : AH} {Q : Value → AH → Prop} {t1 t3 t4 : Value} (H :
 thn (biI .lss t4 (I 7)) fun v0 =>
 Br v0 (
 A27_2 Q t1 t3 t4 h) (
 Q (.bool true) h)
) : A27_1 Q t1 t3 t4 h := by intro e he; cases he; exact bF L27 (by kernel_rfl) H
theorem b27_2 {h : AH} {Q : Value → AH → Prop} {t1 t3 t4 : Value} (H :
 resv h 14 fun r1 h0 =>
 thn (idxA 7 1 t1 t4) fun v2 =>
 thn (ld1 h0 v2) fun v3 =>
 thn (biI .lss v3 (I 1)) fun v4 =>
 Br v4 (
 Q (.bool false) h0) (
 thn (idxA 7 1 t1 t4) fun v5 =>
 thn (ld1 h0 v5) fun v6 =>
 thn (idxS 1 t3 t4) fun v7 =>
 thn (ld1 h0 v7) fun v8 =>
 thn (biI .gtr v6 v8) fun v9 =>
 Br v9 (
 Q (.bool false) h0) (
 A27_3 Q t1 t3 t4 h0))
) : A27_2 Q t1 t3 t4 h := by intro e he; cases he; exact bF L27 (by kernel_rfl) H
theorem b27_3 {h : AH} {Q : Value → AH → Prop} {t1 t3 t4 : Value} (H :
 thn (biI .add t4 (I 1)) fun v0 =>
 A27_1 Q t1 t3 v0 h
) : A27_3 Q t1 t3 t4 h := by intro e he; cases he; exact bF L27 (by kernel_rfl) H
theorem c27 {h : AH} {Q : Value → AH → Prop} {a0 : Value} (H : A27_0 Q a0 h) : Cl Pr K 27 [a0] h Q :=
  ok_enter (by kernel_rfl) (by kernel_rfl) (Eq.mp (by kernel_rfl) (H (fun i => ([a0] : List Value).getD i undef) rfl))

/-! ### 28 donjon/donjonref03.Fields: params 1, captured 0, results [tmp 2] -/
noncomputable def L28 : List (Option Nat × List Nat) := [(some 0, [0]), (some 3, [0])]
noncomputable def A28_0 (Q : Value → AH → Prop) (t0 : Value) (h : AH) : Prop := Pt Pr K 28 none (retV Pr 28 Q) 16 [0] [.code (cc 28 2), .code (cc 28 3)] [] [t0] h
noncomputable def A28_1 (Q : Value → AH → Prop) (t0 : Value) (h : AH) : Prop := Pt Pr K 28 none (retV Pr 28 Q) 16 [0] [.code (cc 28 14), .code (cc 28 15)] [] [t0] h
theorem b28_0 {h : AH} {Q : Value → AH → Prop} {t0 : Value} (H :
 thn (biI .lss t0 (I 1)) fun v0 =>
 Br v0 (
 Q (.string ⟨#[]⟩) h) (
 thn (biI .gtr t0 (I 13)) fun v1 =>
 Br v1 (
 Q (.string ⟨#[]⟩) h) (
 A28_1 Q t0 h))
) : A28_0 Q t0 h := by intro e he; cases he; exact bF L28 (by kernel_rfl) H
theorem b28_1 {h : AH} {Q : Value → AH → Prop} {t0 : Value} (H :
 thn (fillL [(.string ⟨#[]⟩), (.string ⟨#[]⟩), (.string ⟨#[]⟩), (.string ⟨#[]⟩), (.string ⟨#[]⟩), (.string ⟨#[]⟩), (.string ⟨#[]⟩), (.string ⟨#[]⟩), (.string ⟨#[]⟩), (.string ⟨#[]⟩), (.string ⟨#[]⟩), (.string ⟨#[]⟩), (.string ⟨#[]⟩)] [(0, 1, (.string ⟨#[99, 108, 119]⟩)), (1, 1, (.string ⟨#[99, 108, 119]⟩)), (2, 1, (.string ⟨#[99, 108, 116, 100, 120]⟩)), (3, 1, (.string ⟨#[99, 108]⟩)), (4, 1, (.string ⟨#[99, 108, 115, 100, 120, 98]⟩)), (5, 1, (.string ⟨#[99, 112]⟩)), (6, 1, (.string ⟨#[99, 110]⟩)), (7, 1, (.string ⟨#[99, 108, 116, 103, 100]⟩)), (8, 1, (.string ⟨#[99, 108, 98]⟩)), (9, 1, (.string ⟨#[99, 108]⟩)), (10, 1, (.string ⟨#[99, 108, 111]⟩)), (11, 1, (.string ⟨#[99, 100, 112]⟩)), (12, 1, (.string ⟨#[99, 110]⟩))]) fun l1 =>
 alcS h 1 9 l1 13 13 fun s2 h0 =>
 thn (biI .sub t0 (I 1)) fun v3 =>
 thn (idxS 1 s2 v3) fun v4 =>
 thn (ld1 h0 v4) fun v5 =>
 Q v5 h0
) : A28_1 Q t0 h := by intro e he; cases he; exact bF L28 (by kernel_rfl) H
theorem c28 {h : AH} {Q : Value → AH → Prop} {a0 : Value} (H : A28_0 Q a0 h) : Cl Pr K 28 [a0] h Q :=
  ok_enter (by kernel_rfl) (by kernel_rfl) (Eq.mp (by kernel_rfl) (H (fun i => ([a0] : List Value).getD i undef) rfl))

/-! ### 29 donjon/donjonref03.right: params 3, captured 0, results [tmp 6] -/
noncomputable def L29 : List (Option Nat × List Nat) := [(some 0, [0, 1, 2]), (some 4, [3, 4, 7]), (some 6, [3, 4, 7]), (some 8, [3, 4, 7]), (some 10, [3, 4, 7]), (some 12, [3, 4, 7]), (some 14, [3, 4, 7]), (some 16, [3, 4, 7]), (some 18, [3, 4, 7]), (some 20, [4, 7])]
noncomputable def A29_0 (Q : Value → AH → Prop) (t0 t1 t2 : Value) (h : AH) : Prop := Pt Pr K 29 none (retV Pr 29 Q) 88 [0, 1, 2] [.code (cc 29 2), .code (cc 29 3)] [] [t0, t1, t2] h
noncomputable def A29_1 (Q : Value → AH → Prop) (t3 t4 t7 : Value) (h : AH) : Prop := Pt Pr K 29 none (retV Pr 29 Q) 88 [3, 4, 7] [.code (cc 29 214), .code (cc 29 215), .inBlock 0, .code (cc 29 7)] [] [t3, t4, t7] h
noncomputable def A29_2 (Q : Value → AH → Prop) (t3 t4 t7 : Value) (h : AH) : Prop := Pt Pr K 29 none (retV Pr 29 Q) 88 [3, 4, 7] [.code (cc 29 862), .code (cc 29 863), .inBlock 0, .code (cc 29 7)] [] [t3, t4, t7] h
noncomputable def A29_3 (Q : Value → AH → Prop) (t3 t4 t7 : Value) (h : AH) : Prop := Pt Pr K 29 none (retV Pr 29 Q) 88 [3, 4, 7] [.code (cc 29 3454), .code (cc 29 3455), .inBlock 0, .code (cc 29 7)] [] [t3, t4, t7] h
noncomputable def A29_4 (Q : Value → AH → Prop) (t3 t4 t7 : Value) (h : AH) : Prop := Pt Pr K 29 none (retV Pr 29 Q) 88 [3, 4, 7] [.code (cc 29 13822), .code (cc 29 13823), .inBlock 0, .code (cc 29 7)] [] [t3, t4, t7] h
noncomputable def A29_5 (Q : Value → AH → Prop) (t3 t4 t7 : Value) (h : AH) : Prop := Pt Pr K 29 none (retV Pr 29 Q) 88 [3, 4, 7] [.code (cc 29 55294), .code (cc 29 55295), .inBlock 0, .code (cc 29 7)] [] [t3, t4, t7] h
noncomputable def A29_6 (Q : Value → AH → Prop) (t3 t4 t7 : Value) (h : AH) : Prop := Pt Pr K 29 none (retV Pr 29 Q) 88 [3, 4, 7] [.code (cc 29 221182), .code (cc 29 221183), .inBlock 0, .code (cc 29 7)] [] [t3, t4, t7] h
noncomputable def A29_7 (Q : Value → AH → Prop) (t3 t4 t7 : Value) (h : AH) : Prop := Pt Pr K 29 none (retV Pr 29 Q) 88 [3, 4, 7] [.code (cc 29 884734), .code (cc 29 884735), .inBlock 0, .code (cc 29 7)] [] [t3, t4, t7] h
noncomputable def A29_8 (Q : Value → AH → Prop) (t3 t4 t7 : Value) (h : AH) : Prop := Pt Pr K 29 none (retV Pr 29 Q) 88 [3, 4, 7] [.code (cc 29 3538942), .code (cc 29 3538943), .inBlock 0, .code (cc 29 7)] [] [t3, t4, t7] h
noncomputable def A29_9 (Q : Value → AH → Prop) (t4 t7 : Value) (h : AH) : Prop := Pt Pr K 29 none (retV Pr 29 Q) 88 [4, 7] [.code (cc 29 14155774), .code (cc 29 14155775), .inBlock 0, .code (cc 29 7)] [] [t4, t7] h
theorem b29_0 {h : AH} {Q : Value → AH → Prop} {t0 t1 t2 : Value} (H :
 thn (blkOf 43 t0) fun b1 =>
 alc h b1 fun p2 h0 =>
 thn (blkOf 27 t1) fun b4 =>
 alc h0 b4 fun p5 h3 =>
 thn (biI .eql t2 (.int .u8 99)) fun v6 =>
 Br v6 (
 thn (padd 1 (pt p5 0 0)) fun v7 =>
 thn (ld1 h3 v7) fun v8 =>
 thn (padd 0 (pt p2 0 0)) fun v9 =>
 thn (ld1 h3 v9) fun v10 =>
 thn (biI .sub v10 (I 1)) fun v11 =>
 Cl Pr K 34 [v8, (I 0), v11] h3 fun v12 h12 => -- donjon/donjonref03.within
 Q v12 h12) (
 A29_1 Q (pt p2 0 0) (pt p5 0 0) t2 h3)
) : A29_0 Q t0 t1 t2 h := by intro e he; cases he; exact bF L29 (by kernel_rfl) H
theorem b29_1 {h : AH} {Q : Value → AH → Prop} {t3 t4 t7 : Value} (H :
 thn (biI .eql t7 (.int .u8 108)) fun v0 =>
 Br v0 (
 thn (padd 2 t4) fun v1 =>
 thn (ld1 h v1) fun v2 =>
 thn (padd 1 t3) fun v3 =>
 thn (ld1 h v3) fun v4 =>
 thn (biI .mul (I 2) v4) fun v5 =>
 thn (biI .sub v5 (I 1)) fun v6 =>
 Cl Pr K 34 [v2, (I 0), v6] h fun v7 h7 => -- donjon/donjonref03.within
 Q v7 h7) (
 A29_2 Q t3 t4 t7 h)
) : A29_1 Q t3 t4 t7 h := by intro e he; cases he; exact bF L29 (by kernel_rfl) H
theorem b29_2 {h : AH} {Q : Value → AH → Prop} {t3 t4 t7 : Value} (H :
 thn (biI .eql t7 (.int .u8 119)) fun v0 =>
 Br v0 (
 thn (padd 3 t4) fun v1 =>
 thn (ld1 h v1) fun v2 =>
 Cl Pr K 34 [v2, (I 0), (I 3)] h fun v3 h3 => -- donjon/donjonref03.within
 Q v3 h3) (
 A29_3 Q t3 t4 t7 h)
) : A29_2 Q t3 t4 t7 h := by intro e he; cases he; exact bF L29 (by kernel_rfl) H
theorem b29_3 {h : AH} {Q : Value → AH → Prop} {t3 t4 t7 : Value} (H :
 thn (biI .eql t7 (.int .u8 116)) fun v0 =>
 Br v0 (
 thn (padd 3 t4) fun v1 =>
 thn (ld1 h v1) fun v2 =>
 Cl Pr K 34 [v2, (I 0), (I 4)] h fun v3 h3 => -- donjon/donjonref03.within
 Q v3 h3) (
 A29_4 Q t3 t4 t7 h)
) : A29_3 Q t3 t4 t7 h := by intro e he; cases he; exact bF L29 (by kernel_rfl) H
theorem b29_4 {h : AH} {Q : Value → AH → Prop} {t3 t4 t7 : Value} (H :
 thn (biI .eql t7 (.int .u8 115)) fun v0 =>
 Br v0 (
 thn (padd 4 t4) fun v1 =>
 thn (ld1 h v1) fun v2 =>
 Cl Pr K 34 [v2, (I 0), (I 4)] h fun v3 h3 => -- donjon/donjonref03.within
 Q v3 h3) (
 A29_5 Q t3 t4 t7 h)
) : A29_4 Q t3 t4 t7 h := by intro e he; cases he; exact bF L29 (by kernel_rfl) H
theorem b29_5 {h : AH} {Q : Value → AH → Prop} {t3 t4 t7 : Value} (H :
 thn (biI .eql t7 (.int .u8 103)) fun v0 =>
 Br v0 (
 thn (padd 4 t4) fun v1 =>
 thn (ld1 h v1) fun v2 =>
 thn (biI .eql v2 (I 1)) fun v3 =>
 Br v3 (
 Q (.bool true) h) (
 thn (padd 4 t4) fun v4 =>
 thn (ld1 h v4) fun v5 =>
 thn (biI .eql v5 (I 2)) fun v6 =>
 Br v6 (
 Q (.bool true) h) (
 thn (padd 4 t4) fun v7 =>
 thn (ld1 h v7) fun v8 =>
 thn (biI .eql v8 (I 4)) fun v9 =>
 Q v9 h))) (
 A29_6 Q t3 t4 t7 h)
) : A29_5 Q t3 t4 t7 h := by intro e he; cases he; exact bF L29 (by kernel_rfl) H
theorem b29_6 {h : AH} {Q : Value → AH → Prop} {t3 t4 t7 : Value} (H :
 thn (biI .eql t7 (.int .u8 111)) fun v0 =>
 Br v0 (
 thn (padd 4 t4) fun v1 =>
 thn (ld1 h v1) fun v2 =>
 thn (biI .eql v2 (I 0)) fun v3 =>
 Br v3 (
 Q (.bool true) h) (
 thn (padd 4 t4) fun v4 =>
 thn (ld1 h v4) fun v5 =>
 thn (biI .eql v5 (I 1)) fun v6 =>
 Q v6 h)) (
 A29_7 Q t3 t4 t7 h)
) : A29_6 Q t3 t4 t7 h := by intro e he; cases he; exact bF L29 (by kernel_rfl) H
theorem b29_7 {h : AH} {Q : Value → AH → Prop} {t3 t4 t7 : Value} (H :
 thn (biI .eql t7 (.int .u8 112)) fun v0 =>
 Br v0 (
 thn (padd 8 t4) fun v1 =>
 thn (ld1 h v1) fun v2 =>
 Cl Pr K 34 [v2, (I 0), (I 19)] h fun v3 h3 => -- donjon/donjonref03.within
 Q v3 h3) (
 A29_8 Q t3 t4 t7 h)
) : A29_7 Q t3 t4 t7 h := by intro e he; cases he; exact bF L29 (by kernel_rfl) H
theorem b29_8 {h : AH} {Q : Value → AH → Prop} {t3 t4 t7 : Value} (H :
 thn (biI .eql t7 (.int .u8 110)) fun v0 =>
 Br v0 (
 thn (padd 8 t4) fun v1 =>
 thn (ld1 h v1) fun v2 =>
 thn (padd 1 t3) fun v3 =>
 thn (ld1 h v3) fun v4 =>
 thn (biI .sub v4 (I 1)) fun v5 =>
 Cl Pr K 34 [v2, (I 0), v5] h fun v6 h6 => -- donjon/donjonref03.within
 Q v6 h6) (
 A29_9 Q t4 t7 h)
) : A29_8 Q t3 t4 t7 h := by intro e he; cases he; exact bF L29 (by kernel_rfl) H
theorem b29_9 {h : AH} {Q : Value → AH → Prop} {t4 t7 : Value} (H :
 thn (biI .eql t7 (.int .u8 98)) fun v0 =>
 Br v0 (
 thn (padd 8 t4) fun v1 =>
 thn (ld1 h v1) fun v2 =>
 thn (biI .eql v2 (I 0)) fun v3 =>
 Br v3 (
 Q (.bool true) h) (
 thn (padd 8 t4) fun v4 =>
 thn (ld1 h v4) fun v5 =>
 thn (biI .eql v5 (I 1)) fun v6 =>
 Q v6 h)) (
 Q (.bool true) h)
) : A29_9 Q t4 t7 h := by intro e he; cases he; exact bF L29 (by kernel_rfl) H
theorem c29 {h : AH} {Q : Value → AH → Prop} {a0 a1 a2 : Value} (H : A29_0 Q a0 a1 a2 h) : Cl Pr K 29 [a0, a1, a2] h Q :=
  ok_enter (by kernel_rfl) (by kernel_rfl) (Eq.mp (by kernel_rfl) (H (fun i => ([a0, a1, a2] : List Value).getD i undef) rfl))

/-! ### 30 donjon/donjonref03.Has: params 2, captured 0, results [tmp 4] -/
noncomputable def L30 : List (Option Nat × List Nat) := [(some 0, [0, 1]), (some 3, [1, 5, 6]), (some 5, [1, 5, 6]), (some 6, [1, 5, 6, 7]), (some 8, [1, 5, 6, 7]), (some 4, [1, 5, 6]), (some 7, [1, 5, 6, 7])]
noncomputable def A30_0 (Q : Value → AH → Prop) (t0 t1 : Value) (h : AH) : Prop := Pt Pr K 30 none (retV Pr 30 Q) 29 [0, 1] [.code (cc 30 2), .code (cc 30 3)] [] [t0, t1] h
noncomputable def A30_1 (Q : Value → AH → Prop) (t1 t5 t6 : Value) (h : AH) : Prop := Pt Pr K 30 none (retV Pr 30 Q) 29 [1, 5, 6] [.code (cc 30 464), .code (cc 30 465), .code (cc 30 233), .inLoop (cc 30 116), .inBlock 0, .code (cc 30 15)] [] [t1, t5, t6] h
noncomputable def A30_2 (Q : Value → AH → Prop) (t1 t5 t6 : Value) (h : AH) : Prop := Pt Pr K 30 none (retV Pr 30 Q) 29 [1, 5, 6] [.code (cc 30 1864), .code (cc 30 1865), .inBlock 1, .code (cc 30 467), .inLoop (cc 30 116), .inBlock 0, .code (cc 30 15)] [] [t1, t5, t6] h
noncomputable def A30_3 (Q : Value → AH → Prop) (t1 t5 t6 t7 : Value) (h : AH) : Prop := Pt Pr K 30 none (retV Pr 30 Q) 29 [1, 5, 6, 7] [.code (cc 30 29840), .code (cc 30 29841), .code (cc 30 14921), .inLoop (cc 30 7460), .inBlock 2, .inBlock 1, .code (cc 30 467), .inLoop (cc 30 116), .inBlock 0, .code (cc 30 15)] [] [t1, t5, t6, t7] h
noncomputable def A30_4 (Q : Value → AH → Prop) (t1 t5 t6 t7 : Value) (h : AH) : Prop := Pt Pr K 30 none (retV Pr 30 Q) 29 [1, 5, 6, 7] [.code (cc 30 119368), .code (cc 30 119369), .inBlock 3, .code (cc 30 29843), .inLoop (cc 30 7460), .inBlock 2, .inBlock 1, .code (cc 30 467), .inLoop (cc 30 116), .inBlock 0, .code (cc 30 15)] [] [t1, t5, t6, t7] h
noncomputable def A30_5 (Q : Value → AH → Prop) (t1 t5 t6 : Value) (h : AH) : Prop := Pt Pr K 30 none (retV Pr 30 Q) 29 [1, 5, 6] [.code (cc 30 467), .inLoop (cc 30 116), .inBlock 0, .code (cc 30 15)] [] [t1, t5, t6] h
noncomputable def A30_6 (Q : Value → AH → Prop) (t1 t5 t6 t7 : Value) (h : AH) : Prop := Pt Pr K 30 none (retV Pr 30 Q) 29 [1, 5, 6, 7] [.code (cc 30 29843), .inLoop (cc 30 7460), .inBlock 2, .inBlock 1, .code (cc 30 467), .inLoop (cc 30 116), .inBlock 0, .code (cc 30 15)] [] [t1, t5, t6, t7] h
theorem b30_0 {h : AH} {Q : Value → AH → Prop} {t0 t1 : Value} (H :
 Cl Pr K 28 [t0] h fun v0 h0 => -- donjon/donjonref03.Fields
 A30_1 Q t1 v0 (I 0) h0
) : A30_0 Q t0 t1 h := by intro e he; cases he; exact bF L30 (by kernel_rfl) H
theorem b30_1 {h : AH} {Q : Value → AH → Prop} {t1 t5 t6 : Value} (H :
 thn (lenT t5) fun v0 =>
 thn (biI .lss t6 v0) fun v1 =>
 Br v1 (
 A30_2 Q t1 t5 t6 h) (
 Q (.bool false) h)
) : A30_1 Q t1 t5 t6 h := by intro e he; cases he; exact bF L30 (by kernel_rfl) H
theorem b30_2 {h : AH} {Q : Value → AH → Prop} {t1 t5 t6 : Value} (H :
 A30_3 Q t1 t5 t6 (I 0) h
) : A30_2 Q t1 t5 t6 h := by intro e he; cases he; exact bF L30 (by kernel_rfl) H
theorem b30_3 {h : AH} {Q : Value → AH → Prop} {t1 t5 t6 t7 : Value} (H :
 thn (lenT t1) fun v0 =>
 thn (biI .lss t7 v0) fun v1 =>
 Br v1 (
 A30_4 Q t1 t5 t6 t7 h) (
 A30_5 Q t1 t5 t6 h)
) : A30_3 Q t1 t5 t6 t7 h := by intro e he; cases he; exact bF L30 (by kernel_rfl) H
theorem b30_4 {h : AH} {Q : Value → AH → Prop} {t1 t5 t6 t7 : Value} (H :
 resv h 7 fun r1 h0 =>
 thn (atS t5 t6) fun v2 =>
 thn (atS t1 t7) fun v3 =>
 thn (biI .eql v2 v3) fun v4 =>
 Br v4 (
 Q (.bool true) h0) (
 A30_6 Q t1 t5 t6 t7 h0)
) : A30_4 Q t1 t5 t6 t7 h := by intro e he; cases he; exact bF L30 (by kernel_rfl) H
theorem b30_5 {h : AH} {Q : Value → AH → Prop} {t1 t5 t6 : Value} (H :
 thn (biI .add t6 (I 1)) fun v0 =>
 A30_1 Q t1 t5 v0 h
) : A30_5 Q t1 t5 t6 h := by intro e he; cases he; exact bF L30 (by kernel_rfl) H
theorem b30_6 {h : AH} {Q : Value → AH → Prop} {t1 t5 t6 t7 : Value} (H :
 thn (biI .add t7 (I 1)) fun v0 =>
 A30_3 Q t1 t5 t6 v0 h
) : A30_6 Q t1 t5 t6 t7 h := by intro e he; cases he; exact bF L30 (by kernel_rfl) H
theorem c30 {h : AH} {Q : Value → AH → Prop} {a0 a1 : Value} (H : A30_0 Q a0 a1 h) : Cl Pr K 30 [a0, a1] h Q :=
  ok_enter (by kernel_rfl) (by kernel_rfl) (Eq.mp (by kernel_rfl) (H (fun i => ([a0, a1] : List Value).getD i undef) rfl))

/-! ### 31 donjon/note.fields$1: params 1, captured 1, results [] -/
noncomputable def L31 : List (Option Nat × List Nat) := [(some 0, [0, 1]), (some 1, [0, 8, 9]), (some 2, [0, 8, 9]), (some 4, [0, 8, 9])]
noncomputable def A31_0 (Q : Value → AH → Prop) (t0 t1 : Value) (h : AH) : Prop := Pt Pr K 31 none (retV Pr 31 Q) 21 [0, 1] [.code (cc 31 2), .code (cc 31 3)] [] [t0, t1] h
noncomputable def A31_1 (Q : Value → AH → Prop) (t0 t8 t9 : Value) (h : AH) : Prop := Pt Pr K 31 none (retV Pr 31 Q) 21 [0, 8, 9] [.code (cc 31 24), .code (cc 31 25), .inLoop (cc 31 12), .inBlock 0] [] [t0, t8, t9] h
noncomputable def A31_2 (Q : Value → AH → Prop) (t0 t8 t9 : Value) (h : AH) : Prop := Pt Pr K 31 none (retV Pr 31 Q) 21 [0, 8, 9] [.code (cc 31 408), .code (cc 31 409), .inBlock 1, .code (cc 31 103), .inLoop (cc 31 12), .inBlock 0] [] [t0, t8, t9] h
noncomputable def A31_3 (Q : Value → AH → Prop) (t0 t8 t9 : Value) (h : AH) : Prop := Pt Pr K 31 none (retV Pr 31 Q) 21 [0, 8, 9] [.code (cc 31 103), .inLoop (cc 31 12), .inBlock 0] [] [t0, t8, t9] h
theorem b31_0 {h : AH} {Q : Value → AH → Prop} {t0 t1 : Value} (H :
 thn (ld1 h t1) fun v0 =>
 thn (idxA 14 9 (.pointer (some ⟨0, 0, none⟩)) v0) fun v1 =>
 thn (padd 2 v1) fun v2 =>
 thn (ldN h 7 v2) fun v3 =>
 A31_1 Q t0 v3 (I 0) h
) : A31_0 Q t0 t1 h := by intro e he; cases he; exact bF L31 (by kernel_rfl) H
theorem b31_1 {h : AH} {Q : Value → AH → Prop} {t0 t8 t9 : Value} (H :
 thn (biI .lss t9 (I 7)) fun v0 =>
 Br v0 (
 A31_2 Q t0 t8 t9 h) (
 Q (.tuple ⟨[]⟩) h)
) : A31_1 Q t0 t8 t9 h := by intro e he; cases he; exact bF L31 (by kernel_rfl) H
theorem b31_2 {h : AH} {Q : Value → AH → Prop} {t0 t8 t9 : Value} (H :
 thn (at1 7 1 t8 t9) fun v0 =>
 thn (biI .eql v0 (I 0)) fun v1 =>
 Br v1 (
 Q (.tuple ⟨[]⟩) h) (
 OkF Pr K t0 [v0] h fun v2 h2 =>
 thn (unV .not v2) fun v3 =>
 Br v3 (
 Q (.tuple ⟨[]⟩) h2) (
 A31_3 Q t0 t8 t9 h2))
) : A31_2 Q t0 t8 t9 h := by intro e he; cases he; exact bF L31 (by kernel_rfl) H
theorem b31_3 {h : AH} {Q : Value → AH → Prop} {t0 t8 t9 : Value} (H :
 thn (biI .add t9 (I 1)) fun v0 =>
 A31_1 Q t0 t8 v0 h
) : A31_3 Q t0 t8 t9 h := by intro e he; cases he; exact bF L31 (by kernel_rfl) H
theorem c31 {h : AH} {Q : Value → AH → Prop} {a0 a1 : Value} (H : A31_0 Q a0 a1 h) : Cl Pr K 31 [a0, a1] h Q :=
  ok_enter (by kernel_rfl) (by kernel_rfl) (Eq.mp (by kernel_rfl) (H (fun i => ([a0, a1] : List Value).getD i undef) rfl))

/-! ### 33 donjon/place.Lines: params 1, captured 0, results [tmp 2] -/
noncomputable def L33 : List (Option Nat × List Nat) := [(some 0, [0])]
noncomputable def A33_0 (Q : Value → AH → Prop) (t0 : Value) (h : AH) : Prop := Pt Pr K 33 none (retV Pr 33 Q) 9 [0] [.code (cc 33 2), .code (cc 33 3)] [] [t0] h
theorem b33_0 {h : AH} {Q : Value → AH → Prop} {t0 : Value} (H :
 thn (blkOf 23 t0) fun b1 =>
 alc h b1 fun p2 h0 =>
 thn (ldN h0 7 (pt p2 0 0)) fun v3 =>
 Cl Pr K 21 [v3] h0 fun v4 h4 => -- donjon/place.Check
 thn (biI .neq v4 (I 0)) fun v5 =>
 Br v5 (
 Q (I 0) h4) (
 thn (padd 1 (pt p2 0 0)) fun v6 =>
 thn (ld1 h4 v6) fun v7 =>
 thn (biI .mul v7 (I 2)) fun v8 =>
 Q v8 h4)
) : A33_0 Q t0 h := by intro e he; cases he; exact bF L33 (by kernel_rfl) H
theorem c33 {h : AH} {Q : Value → AH → Prop} {a0 : Value} (H : A33_0 Q a0 h) : Cl Pr K 33 [a0] h Q :=
  ok_enter (by kernel_rfl) (by kernel_rfl) (Eq.mp (by kernel_rfl) (H (fun i => ([a0] : List Value).getD i undef) rfl))

/-! ### 34 donjon/donjonref03.within: params 3, captured 0, results [tmp 6] -/
noncomputable def L34 : List (Option Nat × List Nat) := [(some 0, [0, 1, 2])]
noncomputable def A34_0 (Q : Value → AH → Prop) (t0 t1 t2 : Value) (h : AH) : Prop := Pt Pr K 34 none (retV Pr 34 Q) 15 [0, 1, 2] [.code (cc 34 2), .code (cc 34 3)] [] [t0, t1, t2] h
theorem b34_0 {h : AH} {Q : Value → AH → Prop} {t0 t1 t2 : Value} (H :
 thn (biI .geq t0 t1) fun v0 =>
 Br v0 (
 thn (biI .leq t0 t2) fun v1 =>
 Q v1 h) (
 Q (.bool false) h)
) : A34_0 Q t0 t1 t2 h := by intro e he; cases he; exact bF L34 (by kernel_rfl) H
theorem c34 {h : AH} {Q : Value → AH → Prop} {a0 a1 a2 : Value} (H : A34_0 Q a0 a1 a2 h) : Cl Pr K 34 [a0, a1, a2] h Q :=
  ok_enter (by kernel_rfl) (by kernel_rfl) (Eq.mp (by kernel_rfl) (H (fun i => ([a0, a1, a2] : List Value).getD i undef) rfl))

end Go.Proofs.YtjchglfcndckhaaDoor
end
