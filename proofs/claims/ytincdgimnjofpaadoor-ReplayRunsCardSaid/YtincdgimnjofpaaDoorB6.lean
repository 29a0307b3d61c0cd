/- A part of the proof. -/
import Derived.Test.YtincdgimnjofpaaDoorChecked
import Derived.Test.YtincdgimnjofpaaDoorB5
import Derived.KernelRfl
section
namespace Go.Proofs.YtincdgimnjofpaaDoor
open Go Go.Ab
set_option maxRecDepth 100000
noncomputable abbrev Pr : Program := Tryd.prog
noncomputable def cc (f n : Nat) : Code := cd Pr f (dcd n)
noncomputable def K0 : FuncId → List Value → Option Ans := fun _ _ => none
noncomputable def K : FuncId → List Value → Option Ans := addK K0 5 (.bool true)
/-! ### 3 donjon/donjonlaw18.ReplayRuns: params 2, captured 0, results [tmp 4] -/
noncomputable def L3 : List (Option Nat × List Nat) := [(some 0, [0, 1]), (some 3, [1, 2]), (some 8, [1, 2, 5, 6, 7, 8, 9, 10]), (some 10, [1, 2, 5, 6, 7, 8, 9, 10, 11, 12]), (some 12, [1, 2, 5, 6, 7, 8, 9, 11, 12]), (some 18, [2, 5, 6, 7, 8, 9, 10, 11]), (some 16, [1, 2, 5, 6, 7, 8, 10, 11, 12, 13]), (some 11, [1, 2, 5, 6, 7, 8, 9, 10, 11, 12])]
noncomputable def A3_0 (Q : Value → AH → Prop) (t0 t1 : Value) (h : AH) : Prop := Pt Pr K 3 none (retV Pr 3 Q) 165 [0, 1] [.code (cc 3 2), .code (cc 3 3)] [] [t0, t1] h
noncomputable def A3_1 (Q : Value → AH → Prop) (t1 t2 : Value) (h : AH) : Prop := Pt Pr K 3 none (retV Pr 3 Q) 165 [1, 2] [.code (cc 3 14), .code (cc 3 15)] [] [t1, t2] h
noncomputable def A3_2 (Q : Value → AH → Prop) (t1 t2 t5 t6 t7 t8 t9 t10 : Value) (h : AH) : Prop := Pt Pr K 3 none (retV Pr 3 Q) 165 [1, 2, 5, 6, 7, 8, 9, 10] [.code (cc 3 254), .code (cc 3 255)] [] [t1, t2, t5, t6, t7, t8, t9, t10] h
noncomputable def A3_3 (Q : Value → AH → Prop) (t1 t2 t5 t6 t7 t8 t9 t10 t11 t12 : Value) (h : AH) : Prop := Pt Pr K 3 none (retV Pr 3 Q) 165 [1, 2, 5, 6, 7, 8, 9, 10, 11, 12] [.code (cc 3 16336), .code (cc 3 16337), .code (cc 3 8169), .inLoop (cc 3 4084), .inBlock 0, .code (cc 3 511)] [] [t1, t2, t5, t6, t7, t8, t9, t10, t11, t12] h
noncomputable def A3_4 (Q : Value → AH → Prop) (t1 t2 t5 t6 t7 t8 t9 t11 t12 : Value) (h : AH) : Prop := Pt Pr K 3 none (retV Pr 3 Q) 165 [1, 2, 5, 6, 7, 8, 9, 11, 12] [.code (cc 3 65352), .code (cc 3 65353), .inBlock 1, .code (cc 3 16339), .inLoop (cc 3 4084), .inBlock 0, .code (cc 3 511)] [] [t1, t2, t5, t6, t7, t8, t9, t11, t12] h
noncomputable def A3_5 (Q : Value → AH → Prop) (t2 t5 t6 t7 t8 t9 t10 t11 : Value) (h : AH) : Prop := Pt Pr K 3 none (retV Pr 3 Q) 165 [2, 5, 6, 7, 8, 9, 10, 11] [.code (cc 3 2044), .code (cc 3 2045), .code (cc 3 1023)] [] [t2, t5, t6, t7, t8, t9, t10, t11] h
noncomputable def A3_6 (Q : Value → AH → Prop) (t1 t2 t5 t6 t7 t8 t10 t11 t12 t13 : Value) (h : AH) : Prop := Pt Pr K 3 none (retV Pr 3 Q) 165 [1, 2, 5, 6, 7, 8, 10, 11, 12, 13] [.code (cc 3 2091324), .code (cc 3 2091325), .inBlock 1, .code (cc 3 16339), .inLoop (cc 3 4084), .inBlock 0, .code (cc 3 511)] [] [t1, t2, t5, t6, t7, t8, t10, t11, t12, t13] h
noncomputable def A3_7 (Q : Value → AH → Prop) (t1 t2 t5 t6 t7 t8 t9 t10 t11 t12 : Value) (h : AH) : Prop := Pt Pr K 3 none (retV Pr 3 Q) 165 [1, 2, 5, 6, 7, 8, 9, 10, 11, 12] [.code (cc 3 16339), .inLoop (cc 3 4084), .inBlock 0, .code (cc 3 511)] [] [t1, t2, t5, t6, t7, t8, t9, t10, t11, t12] h
theorem b3_0 {h : AH} {Q : Value → AH → Prop} {t0 t1 : Value} (H :
 thn (blkOf 27 t0) fun b1 =>
 alc h b1 fun p2 h0 =>
 thn (ldN h0 11 (pt p2 0 0)) fun v3 =>
 Cl Pr K 4 [v3] h0 fun v4 h4 => -- donjon/donjonlaw16.Few
 thn (unV .not v4) fun v5 =>
 Br v5 (
 Cl Pr K 5 [] h4 fun v6 h6 => -- donjon/donjonlaw18.awake
 Q v6 h6) (
 thn (lenS t1) fun v6 =>
 thn (biI .gtr v6 (I 200)) fun v7 =>
 Br v7 (
 Cl Pr K 5 [] h4 fun v8 h8 => -- donjon/donjonlaw18.awake
 Q v8 h8) (
 A3_1 Q t1 (pt p2 0 0) h4))
) : A3_0 Q t0 t1 h := by intro e he; cases he; exact bF L3 (by kernel_rfl) H
theorem b3_1 {h : AH} {Q : Value → AH → Prop} {t1 t2 : Value} (H :
 thn (ldN h 11 t2) fun v0 =>
 Cl Pr K 6 [v0, t1] h fun v1 h1 => -- donjon/replay.Run
 thn (extV 0 v1) fun v2 =>
 thn (extV 1 v1) fun v3 =>
 alc h1 (.cells [(I 0), (.slice none 0 0), (.slice none 0 0), (.slice none 0 0)] 33 (0, 0) true) fun p5 h4 =>
 thn (stV h4 4 (pt p5 0 0) v2) fun h6 =>
 thn (ldN h6 11 t2) fun v7 =>
 Cl Pr K 7 [v7, t1] h6 fun v8 h8 => -- donjon/replay.First
 thn (extV 0 v8) fun v9 =>
 thn (extV 1 v8) fun v10 =>
 thn (padd 0 t2) fun v11 =>
 thn (ldN h8 7 v11) fun v12 =>
 thn (padd 7 t2) fun v13 =>
 thn (ld1 h8 v13) fun v14 =>
 thn (padd 8 t2) fun v15 =>
 thn (ld1 h8 v15) fun v16 =>
 thn (padd 9 t2) fun v17 =>
 thn (ld1 h8 v17) fun v18 =>
 thn (padd 10 t2) fun v19 =>
 thn (ld1 h8 v19) fun v20 =>
 Cl Pr K 8 [v12, v14, v16, v18, v20] h8 fun v21 h21 => -- donjon/atom.New
 thn (extV 0 v21) fun v22 =>
 thn (extV 1 v21) fun v23 =>
 thn (biI .neq v23 (I 0)) fun v24 =>
 Br v24 (
 thn (biI .eql v3 v23) fun v25 =>
 Br v25 (
 thn (padd 0 (pt p5 0 0)) fun v26 =>
 thn (ld1 h21 v26) fun v27 =>
 thn (biI .eql v27 (I 0)) fun v28 =>
 Br v28 (
 thn (padd 1 (pt p5 0 0)) fun v29 =>
 thn (ld1 h21 v29) fun v30 =>
 thn (lenS v30) fun v31 =>
 thn (padd 2 (pt p5 0 0)) fun v32 =>
 thn (ld1 h21 v32) fun v33 =>
 thn (lenS v33) fun v34 =>
 thn (biI .add v31 v34) fun v35 =>
 thn (padd 3 (pt p5 0 0)) fun v36 =>
 thn (ld1 h21 v36) fun v37 =>
 thn (lenS v37) fun v38 =>
 thn (biI .add v35 v38) fun v39 =>
 thn (biI .eql v39 (I 0)) fun v40 =>
 Br v40 (
 thn (biI .eql v9 (I 0)) fun v41 =>
 Br v41 (
 thn (unV .not v10) fun v42 =>
 Br v42 (
 Cl Pr K 5 [] h21 fun v43 h43 => -- donjon/donjonlaw18.awake
 Q v43 h43) (
 Q (.bool false) h21)) (
 Q (.bool false) h21)) (
 Q (.bool false) h21)) (
 Q (.bool false) h21)) (
 Q (.bool false) h21)) (
 A3_2 Q t1 t2 (pt p5 0 0) v3 v9 v10 v22 v23 h21)
) : A3_1 Q t1 t2 h := by intro e he; cases he; exact bF L3 (by kernel_rfl) H
theorem b3_2 {h : AH} {Q : Value → AH → Prop} {t1 t2 t5 t6 t7 t8 t9 t10 : Value} (H :
 A3_3 Q t1 t2 t5 t6 t7 t8 t9 t10 (I 0) (I 0) h
) : A3_2 Q t1 t2 t5 t6 t7 t8 t9 t10 h := by intro e he; cases he; exact bF L3 (by kernel_rfl) H
theorem b3_3 {h : AH} {Q : Value → AH → Prop} {t1 t2 t5 t6 t7 t8 t9 t10 t11 t12 : Value} (H :
 thn (lenS t1) fun v0 =>
 thn (biI .lss t12 v0) fun v1 =>
 Br v1 (
 thn (biI .eql t10 (I 0)) fun v2 =>
 Br v2 (
 A3_4 Q t1 t2 t5 t6 t7 t8 t9 t11 t12 h) (
 A3_5 Q t2 t5 t6 t7 t8 t9 t10 t11 h)) (
 thn (biI .neq t10 (I 0)) fun v2 =>
 thn (biB .neq t8 v2) fun v3 =>
 Br v3 (
 Q (.bool false) h) (
 Br t8 (
 thn (biI .neq t7 t11) fun v4 =>
 Br v4 (
 Q (.bool false) h) (
 thn (unV .not t8) fun v5 =>
 Br v5 (
 thn (biI .neq t7 (I 0)) fun v6 =>
 Br v6 (
 Q (.bool false) h) (
 thn (biI .eql t6 t10) fun v7 =>
 Br v7 (
 thn (padd 0 t5) fun v8 =>
 thn (ld1 h v8) fun v9 =>
 thn (biI .eql v9 t11) fun v10 =>
 Br v10 (
 thn (ldN h 4 t5) fun v11 =>
 thn (ldN h 11 t2) fun v12 =>
 Cl Pr K 12 [v11, t9, v12] h fun v13 h13 => -- donjon/donjonlaw18.same
 Br v13 (
 Cl Pr K 5 [] h13 fun v14 h14 => -- donjon/donjonlaw18.awake
 Q v14 h14) (
 Q (.bool false) h13)) (
 Q (.bool false) h)) (
 Q (.bool false) h))) (
 thn (biI .eql t6 t10) fun v6 =>
 Br v6 (
 thn (padd 0 t5) fun v7 =>
 thn (ld1 h v7) fun v8 =>
 thn (biI .eql v8 t11) fun v9 =>
 Br v9 (
 thn (ldN h 4 t5) fun v10 =>
 thn (ldN h 11 t2) fun v11 =>
 Cl Pr K 12 [v10, t9, v11] h fun v12 h12 => -- donjon/donjonlaw18.same
 Br v12 (
 Cl Pr K 5 [] h12 fun v13 h13 => -- donjon/donjonlaw18.awake
 Q v13 h13) (
 Q (.bool false) h12)) (
 Q (.bool false) h)) (
 Q (.bool false) h)))) (
 thn (unV .not t8) fun v4 =>
 Br v4 (
 thn (biI .neq t7 (I 0)) fun v5 =>
 Br v5 (
 Q (.bool false) h) (
 thn (biI .eql t6 t10) fun v6 =>
 Br v6 (
 thn (padd 0 t5) fun v7 =>
 thn (ld1 h v7) fun v8 =>
 thn (biI .eql v8 t11) fun v9 =>
 Br v9 (
 thn (ldN h 4 t5) fun v10 =>
 thn (ldN h 11 t2) fun v11 =>
 Cl Pr K 12 [v10, t9, v11] h fun v12 h12 => -- donjon/donjonlaw18.same
 Br v12 (
 Cl Pr K 5 [] h12 fun v13 h13 => -- donjon/donjonlaw18.awake
 Q v13 h13) (
 Q (.bool false) h12)) (
 Q (.bool false) h)) (
 Q (.bool false) h))) (
 thn (biI .eql t6 t10) fun v5 =>
 Br v5 (
 thn (padd 0 t5) fun v6 =>
 thn (ld1 h v6) fun v7 =>
 thn (biI .eql v7 t11) fun v8 =>
 Br v8 (
 thn (ldN h 4 t5) fun v9 =>
 thn (ldN h 11 t2) fun v10 =>
 Cl Pr K 12 [v9, t9, v10] h fun v11 h11 => -- donjon/donjonlaw18.same
 Br v11 (
 Cl Pr K 5 [] h11 fun v12 h12 => -- donjon/donjonlaw18.awake
 Q v12 h12) (
 Q (.bool false) h11)) (
 Q (.bool false) h)) (
 Q (.bool false) h)))))
) : A3_3 Q t1 t2 t5 t6 t7 t8 t9 t10 t11 t12 h := by intro e he; cases he; exact bF L3 (by kernel_rfl) H
theorem b3_4 {h : AH} {Q : Value → AH → Prop} {t1 t2 t5 t6 t7 t8 t9 t11 t12 : Value} (H :
 Cl Pr K 9 [t9] h fun v0 h0 => -- (*donjon/atom.Machine).Copy
 resv h0 19 fun r2 h1 =>
 thn (idxS 7 t1 t12) fun v3 =>
 thn (padd 0 v3) fun v4 =>
 thn (ld1 h1 v4) fun v5 =>
 thn (idxS 7 t1 t12) fun v6 =>
 thn (padd 6 v6) fun v7 =>
 thn (ld1 h1 v7) fun v8 =>
 thn (biI .eql v8 (I 17)) fun v9 =>
 Cl Pr K 10 [v0, v5, v9] h1 fun v10 h10 => -- (*donjon/atom.Machine).Step
 thn (extV 0 v10) fun v11 =>
 thn (extV 1 v10) fun v12 =>
 alcAt h10 (r2 + 16) (.cells [(I 0), (I 0), (I 0), (I 0), (I 0), (I 0), (I 0)] 44 (0, 0) true) fun p14 h13 =>
 thn (stV h13 7 (pt p14 0 0) v11) fun h15 =>
(thn (extV 1 v10) fun v16 =>
 veq v16 v12 = true) ∧ (
 resv h15 9 fun r18 h17 =>
 thn (ldN h17 7 (pt p14 0 0)) fun v19 =>
 thn (idxS 7 t1 t12) fun v20 =>
 thn (ldN h17 7 v20) fun v21 =>
 thn (biA [0, 0, 0, 0, 0, 0, 0] .eql v19 v21) fun v22 =>
 Cl Pr K 11 [v12, v22] h17 fun v23 h23 => -- donjon/donjonref18.Error
 thn (biI .eql v23 (I 0)) fun v24 =>
 Br v24 (
 A3_6 Q t1 t2 t5 t6 t7 t8 v23 t11 t12 v0 h23) (
 A3_7 Q t1 t2 t5 t6 t7 t8 t9 v23 t11 t12 h23))
) : A3_4 Q t1 t2 t5 t6 t7 t8 t9 t11 t12 h := by intro e he; cases he; exact bF L3 (by kernel_rfl) H
theorem b3_5 {h : AH} {Q : Value → AH → Prop} {t2 t5 t6 t7 t8 t9 t10 t11 : Value} (H :
 thn (biI .neq t10 (I 0)) fun v0 =>
 thn (biB .neq t8 v0) fun v1 =>
 Br v1 (
 Q (.bool false) h) (
 Br t8 (
 thn (biI .neq t7 t11) fun v2 =>
 Br v2 (
 Q (.bool false) h) (
 thn (unV .not t8) fun v3 =>
 Br v3 (
 thn (biI .neq t7 (I 0)) fun v4 =>
 Br v4 (
 Q (.bool false) h) (
 thn (biI .eql t6 t10) fun v5 =>
 Br v5 (
 thn (padd 0 t5) fun v6 =>
 thn (ld1 h v6) fun v7 =>
 thn (biI .eql v7 t11) fun v8 =>
 Br v8 (
 thn (ldN h 4 t5) fun v9 =>
 thn (ldN h 11 t2) fun v10 =>
 Cl Pr K 12 [v9, t9, v10] h fun v11 h11 => -- donjon/donjonlaw18.same
 Br v11 (
 Cl Pr K 5 [] h11 fun v12 h12 => -- donjon/donjonlaw18.awake
 Q v12 h12) (
 Q (.bool false) h11)) (
 Q (.bool false) h)) (
 Q (.bool false) h))) (
 thn (biI .eql t6 t10) fun v4 =>
 Br v4 (
 thn (padd 0 t5) fun v5 =>
 thn (ld1 h v5) fun v6 =>
 thn (biI .eql v6 t11) fun v7 =>
 Br v7 (
 thn (ldN h 4 t5) fun v8 =>
 thn (ldN h 11 t2) fun v9 =>
 Cl Pr K 12 [v8, t9, v9] h fun v10 h10 => -- donjon/donjonlaw18.same
 Br v10 (
 Cl Pr K 5 [] h10 fun v11 h11 => -- donjon/donjonlaw18.awake
 Q v11 h11) (
 Q (.bool false) h10)) (
 Q (.bool false) h)) (
 Q (.bool false) h)))) (
 thn (unV .not t8) fun v2 =>
 Br v2 (
 thn (biI .neq t7 (I 0)) fun v3 =>
 Br v3 (
 Q (.bool false) h) (
 thn (biI .eql t6 t10) fun v4 =>
 Br v4 (
 thn (padd 0 t5) fun v5 =>
 thn (ld1 h v5) fun v6 =>
 thn (biI .eql v6 t11) fun v7 =>
 Br v7 (
 thn (ldN h 4 t5) fun v8 =>
 thn (ldN h 11 t2) fun v9 =>
 Cl Pr K 12 [v8, t9, v9] h fun v10 h10 => -- donjon/donjonlaw18.same
 Br v10 (
 Cl Pr K 5 [] h10 fun v11 h11 => -- donjon/donjonlaw18.awake
 Q v11 h11) (
 Q (.bool false) h10)) (
 Q (.bool false) h)) (
 Q (.bool false) h))) (
 thn (biI .eql t6 t10) fun v3 =>
 Br v3 (
 thn (padd 0 t5) fun v4 =>
 thn (ld1 h v4) fun v5 =>
 thn (biI .eql v5 t11) fun v6 =>
 Br v6 (
 thn (ldN h 4 t5) fun v7 =>
 thn (ldN h 11 t2) fun v8 =>
 Cl Pr K 12 [v7, t9, v8] h fun v9 h9 => -- donjon/donjonlaw18.same
 Br v9 (
 Cl Pr K 5 [] h9 fun v10 h10 => -- donjon/donjonlaw18.awake
 Q v10 h10) (
 Q (.bool false) h9)) (
 Q (.bool false) h)) (
 Q (.bool false) h))))
) : A3_5 Q t2 t5 t6 t7 t8 t9 t10 t11 h := by intro e he; cases he; exact bF L3 (by kernel_rfl) H
theorem b3_6 {h : AH} {Q : Value → AH → Prop} {t1 t2 t5 t6 t7 t8 t10 t11 t12 t13 : Value} (H :
 thn (biI .add t11 (I 1)) fun v0 =>
 thn (biI .add t12 (I 1)) fun v1 =>
 A3_3 Q t1 t2 t5 t6 t7 t8 t13 t10 v0 v1 h
) : A3_6 Q t1 t2 t5 t6 t7 t8 t10 t11 t12 t13 h := by intro e he; cases he; exact bF L3 (by kernel_rfl) H
theorem b3_7 {h : AH} {Q : Value → AH → Prop} {t1 t2 t5 t6 t7 t8 t9 t10 t11 t12 : Value} (H :
 thn (biI .add t12 (I 1)) fun v0 =>
 A3_3 Q t1 t2 t5 t6 t7 t8 t9 t10 t11 v0 h
) : A3_7 Q t1 t2 t5 t6 t7 t8 t9 t10 t11 t12 h := by intro e he; cases he; exact bF L3 (by kernel_rfl) H
theorem c3 {h : AH} {Q : Value → AH → Prop} {a0 a1 : Value} (H : A3_0 Q a0 a1 h) : Cl Pr K 3 [a0, a1] h Q :=
  ok_enter (by kernel_rfl) (by kernel_rfl) (Eq.mp (by kernel_rfl) (H (fun i => ([a0, a1] : List Value).getD i undef) rfl))

/-! ### 4 donjon/donjonlaw16.Few: params 1, captured 0, results [tmp 2] -/
noncomputable def L4 : List (Option Nat × List Nat) := [(some 0, [0]), (some 2, [1, 3]), (some 4, [1, 3]), (some 3, [1, 3])]
noncomputable def A4_0 (Q : Value → AH → Prop) (t0 : Value) (h : AH) : Prop := Pt Pr K 4 none (retV Pr 4 Q) 40 [0] [.code (cc 4 2), .code (cc 4 3)] [] [t0] h
noncomputable def A4_1 (Q : Value → AH → Prop) (t1 t3 : Value) (h : AH) : Prop := Pt Pr K 4 none (retV Pr 4 Q) 40 [1, 3] [.code (cc 4 208), .code (cc 4 209), .code (cc 4 105), .inLoop (cc 4 52), .inBlock 0, .code (cc 4 7)] [] [t1, t3] h
noncomputable def A4_2 (Q : Value → AH → Prop) (t1 t3 : Value) (h : AH) : Prop := Pt Pr K 4 none (retV Pr 4 Q) 40 [1, 3] [.code (cc 4 840), .code (cc 4 841), .inBlock 1, .code (cc 4 211), .inLoop (cc 4 52), .inBlock 0, .code (cc 4 7)] [] [t1, t3] h
noncomputable def A4_3 (Q : Value → AH → Prop) (t1 t3 : Value) (h : AH) : Prop := Pt Pr K 4 none (retV Pr 4 Q) 40 [1, 3] [.code (cc 4 211), .inLoop (cc 4 52), .inBlock 0, .code (cc 4 7)] [] [t1, t3] h
theorem b4_0 {h : AH} {Q : Value → AH → Prop} {t0 : Value} (H :
 thn (blkOf 27 t0) fun b1 =>
 alc h b1 fun p2 h0 =>
 A4_1 Q (pt p2 0 0) (I 0) h0
) : A4_0 Q t0 h := by intro e he; cases he; exact bF L4 (by kernel_rfl) H
theorem b4_1 {h : AH} {Q : Value → AH → Prop} {t1 t3 : Value} (H :
 thn (padd 7 t1) fun v0 =>
 thn (ld1 h v0) fun v1 =>
 thn (lenS v1) fun v2 =>
 thn (biI .lss t3 v2) fun v3 =>
 Br v3 (
 A4_2 Q t1 t3 h) (
 thn (padd 7 t1) fun v4 =>
 thn (ld1 h v4) fun v5 =>
 thn (lenS v5) fun v6 =>
 thn (biI .leq v6 (I 6)) fun v7 =>
 Br v7 (
 thn (padd 8 t1) fun v8 =>
 thn (ld1 h v8) fun v9 =>
 thn (lenS v9) fun v10 =>
 thn (biI .leq v10 (I 6)) fun v11 =>
 Br v11 (
 thn (padd 9 t1) fun v12 =>
 thn (ld1 h v12) fun v13 =>
 thn (lenS v13) fun v14 =>
 thn (biI .leq v14 (I 20)) fun v15 =>
 Br v15 (
 thn (padd 10 t1) fun v16 =>
 thn (ld1 h v16) fun v17 =>
 thn (lenS v17) fun v18 =>
 thn (biI .leq v18 (I 80)) fun v19 =>
 Q v19 h) (
 Q (.bool false) h)) (
 Q (.bool false) h)) (
 Q (.bool false) h))
) : A4_1 Q t1 t3 h := by intro e he; cases he; exact bF L4 (by kernel_rfl) H
theorem b4_2 {h : AH} {Q : Value → AH → Prop} {t1 t3 : Value} (H :
 thn (padd 7 t1) fun v0 =>
 thn (ld1 h v0) fun v1 =>
 thn (idxS 1 v1 t3) fun v2 =>
 thn (ld1 h v2) fun v3 =>
 thn (lenS v3) fun v4 =>
 thn (biI .gtr v4 (I 40)) fun v5 =>
 Br v5 (
 Q (.bool false) h) (
 A4_3 Q t1 t3 h)
) : A4_2 Q t1 t3 h := by intro e he; cases he; exact bF L4 (by kernel_rfl) H
theorem b4_3 {h : AH} {Q : Value → AH → Prop} {t1 t3 : Value} (H :
 thn (biI .add t3 (I 1)) fun v0 =>
 A4_1 Q t1 v0 h
) : A4_3 Q t1 t3 h := by intro e he; cases he; exact bF L4 (by kernel_rfl) H
theorem c4 {h : AH} {Q : Value → AH → Prop} {a0 : Value} (H : A4_0 Q a0 h) : Cl Pr K 4 [a0] h Q :=
  ok_enter (by kernel_rfl) (by kernel_rfl) (Eq.mp (by kernel_rfl) (H (fun i => ([a0] : List Value).getD i undef) rfl))

/-! ### 6 donjon/replay.Run: params 2, captured 0, results [cell 4 : 33, tmp 5] -/
noncomputable def L6 : List (Option Nat × List Nat) := [(some 0, [0, 1]), (some 4, [1, 2, 4, 6])]
noncomputable def A6_0 (Q : Value → AH → Prop) (t0 t1 : Value) (h : AH) : Prop := Pt Pr K 6 none (retV Pr 6 Q) 31 [0, 1] [.code (cc 6 2), .code (cc 6 3)] [] [t0, t1] h
noncomputable def A6_1 (Q : Value → AH → Prop) (t1 t2 t4 t6 : Value) (h : AH) : Prop := Pt Pr K 6 none (retV Pr 6 Q) 31 [1, 2, 4, 6] [.code (cc 6 30), .code (cc 6 31)] [] [t1, t2, t4, t6] h
theorem b6_0 {h : AH} {Q : Value → AH → Prop} {t0 t1 : Value} (H :
 thn (blkOf 27 t0) fun b1 =>
 alc h b1 fun p2 h0 =>
 alc h0 (.cells [(I 0), (.slice none 0 0), (.slice none 0 0), (.slice none 0 0)] 33 (0, 0) true) fun p4 h3 =>
 thn (ldN h3 11 (pt p2 0 0)) fun v5 =>
 Cl Pr K 13 [v5] h3 fun v6 h6 => -- donjon/replay.begin
 thn (extV 0 v6) fun v7 =>
 thn (extV 1 v6) fun v8 =>
 alc h6 (.cells [(.pointer none)] 39 (0, 0) true) fun p10 h9 =>
 thn (stV h9 1 (pt p10 0 0) v7) fun h11 =>
 thn (biI .neq v8 (I 0)) fun v12 =>
 Br v12 (
 thn (fillL [(I 0), (.slice none 0 0), (.slice none 0 0), (.slice none 0 0)] []) fun c13 =>
 thn (stV h11 4 (pt p4 0 0) (.agg ⟨c13⟩)) fun h14 =>
 thn (ldN h14 4 (pt p4 0 0)) fun v15 =>
 Q (.tuple ⟨[v15, v8]⟩) h14) (
 A6_1 Q t1 (pt p2 0 0) (pt p4 0 0) (pt p10 0 0) h11)
) : A6_0 Q t0 t1 h := by intro e he; cases he; exact bF L6 (by kernel_rfl) H
theorem b6_1 {h : AH} {Q : Value → AH → Prop} {t1 t2 t4 t6 : Value} (H :
 thn (ld1 h t6) fun v0 =>
 Cl Pr K 14 [v0, t1] h fun v1 h1 => -- donjon/replay.again
 thn (extV 0 v1) fun v2 =>
 thn (extV 1 v1) fun v3 =>
 thn (extV 2 v1) fun v4 =>
 thn (stV h1 1 t6 v2) fun h5 =>
 OkF Pr K (.func (.func 15) #[] #[t2, t6]) [v3] h5 fun v6 h6 =>
 thn (stV h6 4 t4 v6) fun h7 =>
 thn (ldN h7 4 t4) fun v8 =>
 Q (.tuple ⟨[v8, v4]⟩) h7
) : A6_1 Q t1 t2 t4 t6 h := by intro e he; cases he; exact bF L6 (by kernel_rfl) H
theorem c6 {h : AH} {Q : Value → AH → Prop} {a0 a1 : Value} (H : A6_0 Q a0 a1 h) : Cl Pr K 6 [a0, a1] h Q :=
  ok_enter (by kernel_rfl) (by kernel_rfl) (Eq.mp (by kernel_rfl) (H (fun i => ([a0, a1] : List Value).getD i undef) rfl))

/-! ### 7 donjon/replay.First: params 2, captured 0, results [tmp 4, tmp 5] -/
noncomputable def L7 : List (Option Nat × List Nat) := [(some 0, [0, 1]), (some 4, [1, 6])]
noncomputable def A7_0 (Q : Value → AH → Prop) (t0 t1 : Value) (h : AH) : Prop := Pt Pr K 7 none (retV Pr 7 Q) 27 [0, 1] [.code (cc 7 2), .code (cc 7 3)] [] [t0, t1] h
noncomputable def A7_1 (Q : Value → AH → Prop) (t1 t6 : Value) (h : AH) : Prop := Pt Pr K 7 none (retV Pr 7 Q) 27 [1, 6] [.code (cc 7 30), .code (cc 7 31)] [] [t1, t6] h
theorem b7_0 {h : AH} {Q : Value → AH → Prop} {t0 t1 : Value} (H :
 thn (blkOf 27 t0) fun b1 =>
 alc h b1 fun p2 h0 =>
 thn (ldN h0 11 (pt p2 0 0)) fun v3 =>
 Cl Pr K 13 [v3] h0 fun v4 h4 => -- donjon/replay.begin
 thn (extV 0 v4) fun v5 =>
 thn (extV 1 v4) fun v6 =>
 thn (biI .neq v6 (I 0)) fun v7 =>
 Br v7 (
 Q (.tuple ⟨[(I 0), (.bool false)]⟩) h4) (
 A7_1 Q t1 v5 h4)
) : A7_0 Q t0 t1 h := by intro e he; cases he; exact bF L7 (by kernel_rfl) H
theorem b7_1 {h : AH} {Q : Value → AH → Prop} {t1 t6 : Value} (H :
 Cl Pr K 14 [t6, t1] h fun v0 h0 => -- donjon/replay.again
 thn (extV 0 v0) fun v1 =>
 thn (extV 1 v0) fun v2 =>
 thn (extV 2 v0) fun v3 =>
 thn (biI .eql v3 (I 0)) fun v4 =>
 Br v4 (
 Q (.tuple ⟨[(I 0), (.bool false)]⟩) h0) (
 Q (.tuple ⟨[v2, (.bool true)]⟩) h0)
) : A7_1 Q t1 t6 h := by intro e he; cases he; exact bF L7 (by kernel_rfl) H
theorem c7 {h : AH} {Q : Value → AH → Prop} {a0 a1 : Value} (H : A7_0 Q a0 a1 h) : Cl Pr K 7 [a0, a1] h Q :=
  ok_enter (by kernel_rfl) (by kernel_rfl) (Eq.mp (by kernel_rfl) (H (fun i => ([a0, a1] : List Value).getD i undef) rfl))

/-! ### 8 donjon/atom.New: params 5, captured 0, results [tmp 10, tmp 11] -/
noncomputable def L8 : List (Option Nat × List Nat) := [(some 0, [0, 1, 2, 3, 4]), (some 4, [1, 2, 3, 4, 5]), (some 6, [1, 2, 3, 4, 5]), (some 7, [1, 2, 3, 4, 5, 56, 57, 58]), (some 8, [1, 2, 3, 4, 5, 56, 57, 58]), (some 13, [1, 2, 3, 4, 5]), (some 12, [1, 2, 3, 4, 5, 56, 57, 58]), (some 15, [1, 2, 3, 4, 5]), (some 18, [1, 2, 3, 4, 5, 17]), (some 19, [1, 2, 3, 5, 17, 87, 88, 89]), (some 20, [1, 2, 3, 5, 17, 87, 88, 89]), (some 25, [1, 2, 3, 5, 17]), (some 24, [1, 2, 3, 5, 17, 87, 88, 89]), (some 27, [1, 2, 22, 115, 116]), (some 28, [1, 2, 22, 115, 116])]
noncomputable def A8_0 (Q : Value → AH → Prop) (t0 t1 t2 t3 t4 : Value) (h : AH) : Prop := Pt Pr K 8 none (retV Pr 8 Q) 145 [0, 1, 2, 3, 4] [.code (cc 8 2), .code (cc 8 3)] [] [t0, t1, t2, t3, t4] h
noncomputable def A8_1 (Q : Value → AH → Prop) (t1 t2 t3 t4 t5 : Value) (h : AH) : Prop := Pt Pr K 8 none (retV Pr 8 Q) 145 [1, 2, 3, 4, 5] [.code (cc 8 28), .code (cc 8 29), .code (cc 8 15)] [] [t1, t2, t3, t4, t5] h
noncomputable def A8_2 (Q : Value → AH → Prop) (t1 t2 t3 t4 t5 : Value) (h : AH) : Prop := Pt Pr K 8 none (retV Pr 8 Q) 145 [1, 2, 3, 4, 5] [.code (cc 8 60), .code (cc 8 61), .code (cc 8 31)] [] [t1, t2, t3, t4, t5] h
noncomputable def A8_3 (Q : Value → AH → Prop) (t1 t2 t3 t4 t5 t56 t57 t58 : Value) (h : AH) : Prop := Pt Pr K 8 none (retV Pr 8 Q) 145 [1, 2, 3, 4, 5, 56, 57, 58] [.code (cc 8 488), .code (cc 8 489), .inLoop (cc 8 244), .inBlock 0, .code (cc 8 31)] [] [t1, t2, t3, t4, t5, t56, t57, t58] h
noncomputable def A8_4 (Q : Value → AH → Prop) (t1 t2 t3 t4 t5 t56 t57 t58 : Value) (h : AH) : Prop := Pt Pr K 8 none (retV Pr 8 Q) 145 [1, 2, 3, 4, 5, 56, 57, 58] [.code (cc 8 7832), .code (cc 8 7833), .inBlock 1, .code (cc 8 1959), .inLoop (cc 8 244), .inBlock 0, .code (cc 8 31)] [] [t1, t2, t3, t4, t5, t56, t57, t58] h
noncomputable def A8_5 (Q : Value → AH → Prop) (t1 t2 t3 t4 t5 : Value) (h : AH) : Prop := Pt Pr K 8 none (retV Pr 8 Q) 145 [1, 2, 3, 4, 5] [.code (cc 8 124), .code (cc 8 125), .code (cc 8 63)] [] [t1, t2, t3, t4, t5] h
noncomputable def A8_6 (Q : Value → AH → Prop) (t1 t2 t3 t4 t5 t56 t57 t58 : Value) (h : AH) : Prop := Pt Pr K 8 none (retV Pr 8 Q) 145 [1, 2, 3, 4, 5, 56, 57, 58] [.code (cc 8 1959), .inLoop (cc 8 244), .inBlock 0, .code (cc 8 31)] [] [t1, t2, t3, t4, t5, t56, t57, t58] h
noncomputable def A8_7 (Q : Value → AH → Prop) (t1 t2 t3 t4 t5 : Value) (h : AH) : Prop := Pt Pr K 8 none (retV Pr 8 Q) 145 [1, 2, 3, 4, 5] [.code (cc 8 126), .code (cc 8 127)] [] [t1, t2, t3, t4, t5] h
noncomputable def A8_8 (Q : Value → AH → Prop) (t1 t2 t3 t4 t5 t17 : Value) (h : AH) : Prop := Pt Pr K 8 none (retV Pr 8 Q) 145 [1, 2, 3, 4, 5, 17] [.code (cc 8 1020), .code (cc 8 1021), .code (cc 8 511)] [] [t1, t2, t3, t4, t5, t17] h
noncomputable def A8_9 (Q : Value → AH → Prop) (t1 t2 t3 t5 t17 t87 t88 t89 : Value) (h : AH) : Prop := Pt Pr K 8 none (retV Pr 8 Q) 145 [1, 2, 3, 5, 17, 87, 88, 89] [.code (cc 8 8168), .code (cc 8 8169), .inLoop (cc 8 4084), .inBlock 2, .code (cc 8 511)] [] [t1, t2, t3, t5, t17, t87, t88, t89] h
noncomputable def A8_10 (Q : Value → AH → Prop) (t1 t2 t3 t5 t17 t87 t88 t89 : Value) (h : AH) : Prop := Pt Pr K 8 none (retV Pr 8 Q) 145 [1, 2, 3, 5, 17, 87, 88, 89] [.code (cc 8 130712), .code (cc 8 130713), .inBlock 3, .code (cc 8 32679), .inLoop (cc 8 4084), .inBlock 2, .code (cc 8 511)] [] [t1, t2, t3, t5, t17, t87, t88, t89] h
noncomputable def A8_11 (Q : Value → AH → Prop) (t1 t2 t3 t5 t17 : Value) (h : AH) : Prop := Pt Pr K 8 none (retV Pr 8 Q) 145 [1, 2, 3, 5, 17] [.code (cc 8 1022), .code (cc 8 1023)] [] [t1, t2, t3, t5, t17] h
noncomputable def A8_12 (Q : Value → AH → Prop) (t1 t2 t3 t5 t17 t87 t88 t89 : Value) (h : AH) : Prop := Pt Pr K 8 none (retV Pr 8 Q) 145 [1, 2, 3, 5, 17, 87, 88, 89] [.code (cc 8 32679), .inLoop (cc 8 4084), .inBlock 2, .code (cc 8 511)] [] [t1, t2, t3, t5, t17, t87, t88, t89] h
noncomputable def A8_13 (Q : Value → AH → Prop) (t1 t2 t22 t115 t116 : Value) (h : AH) : Prop := Pt Pr K 8 none (retV Pr 8 Q) 145 [1, 2, 22, 115, 116] [.code (cc 8 32744), .code (cc 8 32745), .inLoop (cc 8 16372), .inBlock 4, .code (cc 8 2047)] [] [t1, t2, t22, t115, t116] h
noncomputable def A8_14 (Q : Value → AH → Prop) (t1 t2 t22 t115 t116 : Value) (h : AH) : Prop := Pt Pr K 8 none (retV Pr 8 Q) 145 [1, 2, 22, 115, 116] [.code (cc 8 523928), .code (cc 8 523929), .inBlock 5, .code (cc 8 130983), .inLoop (cc 8 16372), .inBlock 4, .code (cc 8 2047)] [] [t1, t2, t22, t115, t116] h
theorem b8_0 {h : AH} {Q : Value → AH → Prop} {t0 t1 t2 t3 t4 : Value} (H :
 thn (blkOf 23 t0) fun b1 =>
 alc h b1 fun p2 h0 =>
 thn (ldN h0 7 (pt p2 0 0)) fun v3 =>
 Cl Pr K 21 [v3] h0 fun v4 h4 => -- donjon/place.Check
 thn (biI .neq v4 (I 0)) fun v5 =>
 Br v5 (
 Q (.tuple ⟨[(.pointer none), v4]⟩) h4) (
 A8_1 Q t1 t2 t3 t4 (pt p2 0 0) h4)
) : A8_0 Q t0 t1 t2 t3 t4 h := by intro e he; cases he; exact bF L8 (by kernel_rfl) H
theorem b8_1 {h : AH} {Q : Value → AH → Prop} {t1 t2 t3 t4 t5 : Value} (H :
 thn (lenS t1) fun v0 =>
 thn (padd 0 t5) fun v1 =>
 thn (ld1 h v1) fun v2 =>
 thn (biI .neq v0 v2) fun v3 =>
 Br v3 (
 Q (.tuple ⟨[(.pointer none), (I 1)]⟩) h) (
 thn (lenS t2) fun v4 =>
 thn (padd 0 t5) fun v5 =>
 thn (ld1 h v5) fun v6 =>
 thn (biI .neq v4 v6) fun v7 =>
 Br v7 (
 Q (.tuple ⟨[(.pointer none), (I 1)]⟩) h) (
 thn (lenS t3) fun v8 =>
 thn (padd 1 t5) fun v9 =>
 thn (ld1 h v9) fun v10 =>
 thn (biI .neq v8 v10) fun v11 =>
 Br v11 (
 Q (.tuple ⟨[(.pointer none), (I 1)]⟩) h) (
 thn (lenS t4) fun v12 =>
 thn (ldN h 7 t5) fun v13 =>
 Cl Pr K 22 [v13] h fun v14 h14 => -- donjon/place.Words
 thn (biI .neq v12 v14) fun v15 =>
 Br v15 (
 Q (.tuple ⟨[(.pointer none), (I 1)]⟩) h14) (
 A8_2 Q t1 t2 t3 t4 t5 h14))))
) : A8_1 Q t1 t2 t3 t4 t5 h := by intro e he; cases he; exact bF L8 (by kernel_rfl) H
theorem b8_2 {h : AH} {Q : Value → AH → Prop} {t1 t2 t3 t4 t5 : Value} (H :
 thn (lenS t1) fun v0 =>
 A8_3 Q t1 t2 t3 t4 t5 t1 v0 (I 0) h
) : A8_2 Q t1 t2 t3 t4 t5 h := by intro e he; cases he; exact bF L8 (by kernel_rfl) H
theorem b8_3 {h : AH} {Q : Value → AH → Prop} {t1 t2 t3 t4 t5 t56 t57 t58 : Value} (H :
 thn (biI .lss t58 t57) fun v0 =>
 Br v0 (
 A8_4 Q t1 t2 t3 t4 t5 t56 t57 t58 h) (
 A8_5 Q t1 t2 t3 t4 t5 h)
) : A8_3 Q t1 t2 t3 t4 t5 t56 t57 t58 h := by intro e he; cases he; exact bF L8 (by kernel_rfl) H
theorem b8_4 {h : AH} {Q : Value → AH → Prop} {t1 t2 t3 t4 t5 t56 t57 t58 : Value} (H :
 thn (idxS 1 t56 t58) fun v0 =>
 thn (ld1 h v0) fun v1 =>
 Cl Pr K 23 [v1] h fun v2 h2 => -- donjon/isa.Check
 thn (extV 0 v2) fun v3 =>
 thn (extV 1 v2) fun v4 =>
 thn (biI .neq v4 (I 0)) fun v5 =>
 Br v5 (
 Q (.tuple ⟨[(.pointer none), v4]⟩) h2) (
 A8_6 Q t1 t2 t3 t4 t5 t56 t57 t58 h2)
) : A8_4 Q t1 t2 t3 t4 t5 t56 t57 t58 h := by intro e he; cases he; exact bF L8 (by kernel_rfl) H
theorem b8_5 {h : AH} {Q : Value → AH → Prop} {t1 t2 t3 t4 t5 : Value} (H :
 Cl Pr K 24 [(I 0), (I 3), t2] h fun v0 h0 => -- donjon/atom.within
 thn (unV .not v0) fun v1 =>
 Br v1 (
 Q (.tuple ⟨[(.pointer none), (I 10)]⟩) h0) (
 Cl Pr K 24 [(I 0), (I 4), t3] h0 fun v2 h2 => -- donjon/atom.within
 thn (unV .not v2) fun v3 =>
 Br v3 (
 Q (.tuple ⟨[(.pointer none), (I 10)]⟩) h2) (
 A8_7 Q t1 t2 t3 t4 t5 h2))
) : A8_5 Q t1 t2 t3 t4 t5 h := by intro e he; cases he; exact bF L8 (by kernel_rfl) H
theorem b8_6 {h : AH} {Q : Value → AH → Prop} {t1 t2 t3 t4 t5 t56 t57 t58 : Value} (H :
 thn (biI .add t58 (I 1)) fun v0 =>
 A8_3 Q t1 t2 t3 t4 t5 t56 t57 v0 h
) : A8_6 Q t1 t2 t3 t4 t5 t56 t57 t58 h := by intro e he; cases he; exact bF L8 (by kernel_rfl) H
theorem b8_7 {h : AH} {Q : Value → AH → Prop} {t1 t2 t3 t4 t5 : Value} (H :
 thn (ldN h 7 t5) fun v0 =>
 Cl Pr K 25 [v0] h fun v1 h1 => -- donjon/bank.New
 thn (extV 0 v1) fun v2 =>
 thn (extV 1 v1) fun v3 =>
 thn (biI .neq v3 (I 0)) fun v4 =>
 Br v4 (
 Q (.tuple ⟨[(.pointer none), v3]⟩) h1) (
 A8_8 Q t1 t2 t3 t4 t5 v2 h1)
) : A8_7 Q t1 t2 t3 t4 t5 h := by intro e he; cases he; exact bF L8 (by kernel_rfl) H
theorem b8_8 {h : AH} {Q : Value → AH → Prop} {t1 t2 t3 t4 t5 t17 : Value} (H :
 thn (lenS t4) fun v0 =>
 A8_9 Q t1 t2 t3 t5 t17 t4 v0 (I 0) h
) : A8_8 Q t1 t2 t3 t4 t5 t17 h := by intro e he; cases he; exact bF L8 (by kernel_rfl) H
theorem b8_9 {h : AH} {Q : Value → AH → Prop} {t1 t2 t3 t5 t17 t87 t88 t89 : Value} (H :
 thn (biI .lss t89 t88) fun v0 =>
 Br v0 (
 A8_10 Q t1 t2 t3 t5 t17 t87 t88 t89 h) (
 A8_11 Q t1 t2 t3 t5 t17 h)
) : A8_9 Q t1 t2 t3 t5 t17 t87 t88 t89 h := by intro e he; cases he; exact bF L8 (by kernel_rfl) H
theorem b8_10 {h : AH} {Q : Value → AH → Prop} {t1 t2 t3 t5 t17 t87 t88 t89 : Value} (H :
 thn (idxS 1 t87 t89) fun v0 =>
 thn (ld1 h v0) fun v1 =>
 Cl Pr K 26 [t17, t89, v1] h fun v2 h2 => -- (*donjon/bank.Memory).Set
 thn (biI .neq v2 (I 0)) fun v3 =>
 Br v3 (
 Q (.tuple ⟨[(.pointer none), v2]⟩) h2) (
 A8_12 Q t1 t2 t3 t5 t17 t87 t88 t89 h2)
) : A8_10 Q t1 t2 t3 t5 t17 t87 t88 t89 h := by intro e he; cases he; exact bF L8 (by kernel_rfl) H
theorem b8_11 {h : AH} {Q : Value → AH → Prop} {t1 t2 t3 t5 t17 : Value} (H :
 resv h 10 fun r1 h0 =>
 thn (ldN h0 7 t5) fun v2 =>
 thn (padd 0 t5) fun v3 =>
 thn (ld1 h0 v3) fun v4 =>
 thn (mkS 80 v4 v4) fun n6 =>
 alcSAt h0 (r1 + 3) 8 79 (zerosA [(I 0), (I 0), (I 0), (I 0), (I 0), (I 0), (.bool false), (.slice none 0 0)] n6.2) n6.1 n6.2 fun s7 h5 =>
 Cl Pr K 27 [t3] h5 fun v8 h8 => -- slices.Clone[[]int,int]
 thn (fillL [(I 0), (I 0), (I 0), (I 0), (I 0), (I 0), (I 0), (.slice none 0 0), (.slice none 0 0), (.pointer none)] [(0, 7, v2), (7, 1, s7), (8, 1, v8), (9, 1, t17)]) fun c9 =>
 thn (blkOf 76 (.agg ⟨c9⟩)) fun b11 =>
 alcAt h8 (r1 + 8) b11 fun p12 h10 =>
(thn (ldN h10 7 t5) fun v13 =>
 veq v13 v2 = true) ∧ (
(thn (padd 0 t5) fun v14 =>
 veq v14 v3 = true) ∧ (
(thn (ld1 h10 v3) fun v15 =>
 veq v15 v4 = true) ∧ (
(veq t17 t17 = true) ∧ (
 thn (nilV (pt p12 0 0)) fun v16 =>
 thn (padd 7 v16) fun v17 =>
 thn (ld1 h10 v17) fun v18 =>
 thn (lenS v18) fun v19 =>
 A8_13 Q t1 t2 (pt p12 0 0) v19 (I 0) h10))))
) : A8_11 Q t1 t2 t3 t5 t17 h := by intro e he; cases he; exact bF L8 (by kernel_rfl) H
theorem b8_12 {h : AH} {Q : Value → AH → Prop} {t1 t2 t3 t5 t17 t87 t88 t89 : Value} (H :
 thn (biI .add t89 (I 1)) fun v0 =>
 A8_9 Q t1 t2 t3 t5 t17 t87 t88 v0 h
) : A8_12 Q t1 t2 t3 t5 t17 t87 t88 t89 h := by intro e he; cases he; exact bF L8 (by kernel_rfl) H
theorem b8_13 {h : AH} {Q : Value → AH → Prop} {t1 t2 t22 t115 t116 : Value} (H :
 thn (biI .lss t116 t115) fun v0 =>
 Br v0 (
 A8_14 Q t1 t2 t22 t115 t116 h) (
 Q (.tuple ⟨[t22, (I 0)]⟩) h)
) : A8_13 Q t1 t2 t22 t115 t116 h := by intro e he; cases he; exact bF L8 (by kernel_rfl) H
theorem b8_14 {h : AH} {Q : Value → AH → Prop} {t1 t2 t22 t115 t116 : Value} (H :
 thn (nilV t22) fun v0 =>
 thn (padd 7 v0) fun v1 =>
 thn (ld1 h v1) fun v2 =>
 thn (idxS 8 v2 t116) fun v3 =>
 thn (idxS 1 t1 t116) fun v4 =>
 thn (ld1 h v4) fun v5 =>
 Cl Pr K 28 [v5] h fun v6 h6 => -- slices.Clone[[]donjon/isa.Instr,donjon/isa.Instr]
 thn (nilV v3) fun v7 =>
 thn (padd 7 v7) fun v8 =>
 thn (stV h6 1 v8 v6) fun h9 =>
 thn (idxS 1 t2 t116) fun v10 =>
 thn (ld1 h9 v10) fun v11 =>
 thn (nilV v3) fun v12 =>
 thn (padd 0 v12) fun v13 =>
 thn (padd 5 v13) fun v14 =>
 thn (stV h9 1 v14 v11) fun h15 =>
 Cl Pr K 29 [v3, (I 0)] h15 fun v16 h16 => -- (*donjon/atom.seat).turn
 thn (biI .add t116 (I 1)) fun v17 =>
 A8_13 Q t1 t2 t22 t115 v17 h16
) : A8_14 Q t1 t2 t22 t115 t116 h := by intro e he; cases he; exact bF L8 (by kernel_rfl) H
theorem c8 {h : AH} {Q : Value → AH → Prop} {a0 a1 a2 a3 a4 : Value} (H : A8_0 Q a0 a1 a2 a3 a4 h) : Cl Pr K 8 [a0, a1, a2, a3, a4] h Q :=
  ok_enter (by kernel_rfl) (by kernel_rfl) (Eq.mp (by kernel_rfl) (H (fun i => ([a0, a1, a2, a3, a4] : List Value).getD i undef) rfl))

/-! ### 9 (*donjon/atom.Machine).Copy: params 1, captured 0, results [tmp 2] -/
noncomputable def L9 : List (Option Nat × List Nat) := [(some 0, [0]), (some 3, [0]), (some 5, [3, 32, 33]), (some 6, [3, 32, 33])]
noncomputable def A9_0 (Q : Value → AH → Prop) (t0 : Value) (h : AH) : Prop := Pt Pr K 9 none (retV Pr 9 Q) 54 [0] [.code (cc 9 2), .code (cc 9 3)] [] [t0] h
noncomputable def A9_1 (Q : Value → AH → Prop) (t0 : Value) (h : AH) : Prop := Pt Pr K 9 none (retV Pr 9 Q) 54 [0] [.code (cc 9 14), .code (cc 9 15)] [] [t0] h
noncomputable def A9_2 (Q : Value → AH → Prop) (t3 t32 t33 : Value) (h : AH) : Prop := Pt Pr K 9 none (retV Pr 9 Q) 54 [3, 32, 33] [.code (cc 9 488), .code (cc 9 489), .inLoop (cc 9 244), .inBlock 0, .code (cc 9 31)] [] [t3, t32, t33] h
noncomputable def A9_3 (Q : Value → AH → Prop) (t3 t32 t33 : Value) (h : AH) : Prop := Pt Pr K 9 none (retV Pr 9 Q) 54 [3, 32, 33] [.code (cc 9 7832), .code (cc 9 7833), .inBlock 1, .code (cc 9 1959), .inLoop (cc 9 244), .inBlock 0, .code (cc 9 31)] [] [t3, t32, t33] h
theorem b9_0 {h : AH} {Q : Value → AH → Prop} {t0 : Value} (H :
 thn (biP .eql t0 (.pointer none)) fun v0 =>
 Br v0 (
 Q (.pointer none) h) (
 A9_1 Q t0 h)
) : A9_0 Q t0 h := by intro e he; cases he; exact bF L9 (by kernel_rfl) H
theorem b9_1 {h : AH} {Q : Value → AH → Prop} {t0 : Value} (H :
 resv h 22 fun r1 h0 =>
 thn (nilV t0) fun v2 =>
 thn (padd 0 v2) fun v3 =>
 thn (ldN h0 7 v3) fun v4 =>
 thn (nilV t0) fun v5 =>
 thn (padd 7 v5) fun v6 =>
 thn (ld1 h0 v6) fun v7 =>
 Cl Pr K 30 [v7] h0 fun v8 h8 => -- slices.Clone[[]donjon/atom.seat,donjon/atom.seat]
 thn (nilV t0) fun v9 =>
 thn (padd 8 v9) fun v10 =>
 thn (ld1 h8 v10) fun v11 =>
 Cl Pr K 27 [v11] h8 fun v12 h12 => -- slices.Clone[[]int,int]
 thn (nilV t0) fun v13 =>
 thn (padd 9 v13) fun v14 =>
 thn (ld1 h12 v14) fun v15 =>
 Cl Pr K 31 [v15] h12 fun v16 h16 => -- (*donjon/bank.Memory).Copy
 thn (fillL [(I 0), (I 0), (I 0), (I 0), (I 0), (I 0), (I 0), (.slice none 0 0), (.slice none 0 0), (.pointer none)] [(0, 7, v4), (7, 1, v8), (8, 1, v12), (9, 1, v16)]) fun c17 =>
 thn (blkOf 76 (.agg ⟨c17⟩)) fun b19 =>
 alcAt h16 (r1 + 20) b19 fun p20 h18 =>
(veq t0 t0 = true) ∧ (
(veq t0 t0 = true) ∧ (
(veq t0 t0 = true) ∧ (
(thn (nilV t0) fun v21 =>
 veq v21 v2 = true) ∧ (
(thn (nilV t0) fun v22 =>
 veq v22 v2 = true) ∧ (
(thn (nilV t0) fun v23 =>
 veq v23 v2 = true) ∧ (
(thn (padd 0 v2) fun v24 =>
 veq v24 v3 = true) ∧ (
(thn (padd 0 v2) fun v25 =>
 veq v25 v3 = true) ∧ (
(thn (padd 0 v2) fun v26 =>
 veq v26 v3 = true) ∧ (
(thn (ldN h8 7 v3) fun v27 =>
 veq v27 v4 = true) ∧ (
(thn (ldN h12 7 v3) fun v28 =>
 veq v28 v4 = true) ∧ (
(thn (ldN h18 7 v3) fun v29 =>
 veq v29 v4 = true) ∧ (
(veq t0 t0 = true) ∧ (
(thn (nilV t0) fun v30 =>
 veq v30 v9 = true) ∧ (
(thn (padd 8 v9) fun v31 =>
 veq v31 v10 = true) ∧ (
(thn (ld1 h0 v10) fun v32 =>
 veq v32 v11 = true) ∧ (
(veq t0 t0 = true) ∧ (
(veq t0 t0 = true) ∧ (
(thn (nilV t0) fun v33 =>
 veq v33 v13 = true) ∧ (
(thn (nilV t0) fun v34 =>
 veq v34 v13 = true) ∧ (
(thn (padd 9 v13) fun v35 =>
 veq v35 v14 = true) ∧ (
(thn (padd 9 v13) fun v36 =>
 veq v36 v14 = true) ∧ (
(thn (ld1 h0 v14) fun v37 =>
 veq v37 v15 = true) ∧ (
(thn (ld1 h8 v14) fun v38 =>
 veq v38 v15 = true) ∧ (
 thn (nilV (pt p20 0 0)) fun v39 =>
 thn (padd 7 v39) fun v40 =>
 thn (ld1 h18 v40) fun v41 =>
 thn (lenS v41) fun v42 =>
 A9_2 Q (pt p20 0 0) v42 (I 0) h18))))))))))))))))))))))))
) : A9_1 Q t0 h := by intro e he; cases he; exact bF L9 (by kernel_rfl) H
theorem b9_2 {h : AH} {Q : Value → AH → Prop} {t3 t32 t33 : Value} (H :
 thn (biI .lss t33 t32) fun v0 =>
 Br v0 (
 A9_3 Q t3 t32 t33 h) (
 Q t3 h)
) : A9_2 Q t3 t32 t33 h := by intro e he; cases he; exact bF L9 (by kernel_rfl) H
theorem b9_3 {h : AH} {Q : Value → AH → Prop} {t3 t32 t33 : Value} (H :
 resv h 17 fun r1 h0 =>
 thn (nilV t3) fun v2 =>
 thn (padd 7 v2) fun v3 =>
 thn (ld1 h0 v3) fun v4 =>
 thn (nilV t3) fun v5 =>
 thn (padd 7 v5) fun v6 =>
 thn (ld1 h0 v6) fun v7 =>
 thn (idxS 8 v7 t33) fun v8 =>
 thn (padd 7 v8) fun v9 =>
 thn (ld1 h0 v9) fun v10 =>
 Cl Pr K 28 [v10] h0 fun v11 h11 => -- slices.Clone[[]donjon/isa.Instr,donjon/isa.Instr]
 thn (idxS 8 v4 t33) fun v12 =>
 thn (padd 7 v12) fun v13 =>
 thn (stV h11 1 v13 v11) fun h14 =>
(veq t3 t3 = true) ∧ (
(thn (nilV t3) fun v15 =>
 veq v15 v2 = true) ∧ (
(thn (padd 7 v2) fun v16 =>
 veq v16 v3 = true) ∧ (
(thn (ld1 h11 v3) fun v17 =>
 veq v17 v4 = true) ∧ (
(veq t33 t33 = true) ∧ (
 thn (biI .add t33 (I 1)) fun v18 =>
 A9_2 Q t3 t32 v18 h14)))))
) : A9_3 Q t3 t32 t33 h := by intro e he; cases he; exact bF L9 (by kernel_rfl) H
theorem c9 {h : AH} {Q : Value → AH → Prop} {a0 : Value} (H : A9_0 Q a0 h) : Cl Pr K 9 [a0] h Q :=
  ok_enter (by kernel_rfl) (by kernel_rfl) (Eq.mp (by kernel_rfl) (H (fun i => ([a0] : List Value).getD i undef) rfl))

/-! ### 10 (*donjon/atom.Machine).Step: params 3, captured 0, results [cell 6 : 44, tmp 7] -/
noncomputable def L10 : List (Option Nat × List Nat) := [(some 0, [0, 1, 2]), (some 3, [0, 1, 2, 6]), (some 5, [0, 1, 2, 6]), (some 8, [0, 1, 2, 6, 8]), (some 13, [6, 8, 9, 10, 11]), (some 15, [0, 2, 6, 8, 9, 10, 11, 70]), (some 16, [6, 8, 9, 10, 11]), (some 18, [0, 2, 6, 8, 9, 10, 11, 70]), (some 39, [0, 2, 6, 8, 9, 10, 11, 70, 114]), (some 19, [0, 2, 6, 8, 9, 10, 11, 70]), (some 21, [0, 6, 8, 9, 10, 11]), (some 23, [0, 2, 6, 8, 9, 10, 11, 70, 114]), (some 20, [0, 2, 6, 8, 9, 10, 11, 70]), (some 24, [6, 8, 9, 10, 11]), (some 28, [0, 2, 6, 8, 9, 10, 11, 70, 114]), (some 26, [6, 8, 9, 10, 11]), (some 27, [6, 8, 10, 11]), (some 29, [0, 2, 6, 8, 9, 10, 11]), (some 32, [0, 2, 6, 8, 9, 10, 11, 70, 114]), (some 33, [6, 8, 9, 10]), (some 35, [0, 2, 6, 8, 9, 10, 11, 70, 114]), (some 36, [0, 2, 6, 8, 9, 10, 11, 70, 114]), (some 38, [6, 8, 9, 10])]
noncomputable def A10_0 (Q : Value → AH → Prop) (t0 t1 t2 : Value) (h : AH) : Prop := Pt Pr K 10 none (retV Pr 10 Q) 225 [0, 1, 2] [.code (cc 10 2), .code (cc 10 3)] [] [t0, t1, t2] h
noncomputable def A10_1 (Q : Value → AH → Prop) (t0 t1 t2 t6 : Value) (h : AH) : Prop := Pt Pr K 10 none (retV Pr 10 Q) 225 [0, 1, 2, 6] [.code (cc 10 28), .code (cc 10 29), .code (cc 10 15)] [] [t0, t1, t2, t6] h
noncomputable def A10_2 (Q : Value → AH → Prop) (t0 t1 t2 t6 : Value) (h : AH) : Prop := Pt Pr K 10 none (retV Pr 10 Q) 225 [0, 1, 2, 6] [.code (cc 10 30), .code (cc 10 31)] [] [t0, t1, t2, t6] h
noncomputable def A10_3 (Q : Value → AH → Prop) (t0 t1 t2 t6 t8 : Value) (h : AH) : Prop := Pt Pr K 10 none (retV Pr 10 Q) 225 [0, 1, 2, 6, 8] [.code (cc 10 126), .code (cc 10 127)] [] [t0, t1, t2, t6, t8] h
noncomputable def A10_4 (Q : Value → AH → Prop) (t6 t8 t9 t10 t11 : Value) (h : AH) : Prop := Pt Pr K 10 none (retV Pr 10 Q) 225 [6, 8, 9, 10, 11] [.code (cc 10 32724), .code (cc 10 32725), .inBlock 0, .code (cc 10 1023)] [] [t6, t8, t9, t10, t11] h
noncomputable def A10_5 (Q : Value → AH → Prop) (t0 t2 t6 t8 t9 t10 t11 t70 : Value) (h : AH) : Prop := Pt Pr K 10 none (retV Pr 10 Q) 225 [0, 2, 6, 8, 9, 10, 11, 70] [.code (cc 10 32726), .code (cc 10 32727), .inBlock 0, .code (cc 10 1023)] [] [t0, t2, t6, t8, t9, t10, t11, t70] h
noncomputable def A10_6 (Q : Value → AH → Prop) (t6 t8 t9 t10 t11 : Value) (h : AH) : Prop := Pt Pr K 10 none (retV Pr 10 Q) 225 [6, 8, 9, 10, 11] [.code (cc 10 130908), .code (cc 10 130909), .inBlock 0, .code (cc 10 1023)] [] [t6, t8, t9, t10, t11] h
noncomputable def A10_7 (Q : Value → AH → Prop) (t0 t2 t6 t8 t9 t10 t11 t70 : Value) (h : AH) : Prop := Pt Pr K 10 none (retV Pr 10 Q) 225 [0, 2, 6, 8, 9, 10, 11, 70] [.code (cc 10 261820), .code (cc 10 261821), .code (cc 10 130911), .inBlock 0, .code (cc 10 1023)] [] [t0, t2, t6, t8, t9, t10, t11, t70] h
noncomputable def A10_8 (Q : Value → AH → Prop) (t0 t2 t6 t8 t9 t10 t11 t70 t114 : Value) (h : AH) : Prop := Pt Pr K 10 none (retV Pr 10 Q) 225 [0, 2, 6, 8, 9, 10, 11, 70, 114] [.code (cc 10 130911), .inBlock 0, .code (cc 10 1023)] [] [t0, t2, t6, t8, t9, t10, t11, t70, t114] h
noncomputable def A10_9 (Q : Value → AH → Prop) (t0 t2 t6 t8 t9 t10 t11 t70 : Value) (h : AH) : Prop := Pt Pr K 10 none (retV Pr 10 Q) 225 [0, 2, 6, 8, 9, 10, 11, 70] [.code (cc 10 1047286), .code (cc 10 1047287), .code (cc 10 130911), .inBlock 0, .code (cc 10 1023)] [] [t0, t2, t6, t8, t9, t10, t11, t70] h
noncomputable def A10_10 (Q : Value → AH → Prop) (t0 t6 t8 t9 t10 t11 : Value) (h : AH) : Prop := Pt Pr K 10 none (retV Pr 10 Q) 225 [0, 6, 8, 9, 10, 11] [.code (cc 10 523644), .code (cc 10 523645), .inBlock 0, .code (cc 10 1023)] [] [t0, t6, t8, t9, t10, t11] h
noncomputable def A10_11 (Q : Value → AH → Prop) (t0 t2 t6 t8 t9 t10 t11 t70 t114 : Value) (h : AH) : Prop := Pt Pr K 10 none (retV Pr 10 Q) 225 [0, 2, 6, 8, 9, 10, 11, 70, 114] [.code (cc 10 523646), .code (cc 10 523647), .inBlock 0, .code (cc 10 1023)] [] [t0, t2, t6, t8, t9, t10, t11, t70, t114] h
noncomputable def A10_12 (Q : Value → AH → Prop) (t0 t2 t6 t8 t9 t10 t11 t70 : Value) (h : AH) : Prop := Pt Pr K 10 none (retV Pr 10 Q) 225 [0, 2, 6, 8, 9, 10, 11, 70] [.code (cc 10 2094575), .code (cc 10 130911), .inBlock 0, .code (cc 10 1023)] [] [t0, t2, t6, t8, t9, t10, t11, t70] h
noncomputable def A10_13 (Q : Value → AH → Prop) (t6 t8 t9 t10 t11 : Value) (h : AH) : Prop := Pt Pr K 10 none (retV Pr 10 Q) 225 [6, 8, 9, 10, 11] [.code (cc 10 2094588), .code (cc 10 2094589), .inBlock 0, .code (cc 10 1023)] [] [t6, t8, t9, t10, t11] h
noncomputable def A10_14 (Q : Value → AH → Prop) (t0 t2 t6 t8 t9 t10 t11 t70 t114 : Value) (h : AH) : Prop := Pt Pr K 10 none (retV Pr 10 Q) 225 [0, 2, 6, 8, 9, 10, 11, 70, 114] [.code (cc 10 2094590), .code (cc 10 2094591), .inBlock 0, .code (cc 10 1023)] [] [t0, t2, t6, t8, t9, t10, t11, t70, t114] h
noncomputable def A10_15 (Q : Value → AH → Prop) (t6 t8 t9 t10 t11 : Value) (h : AH) : Prop := Pt Pr K 10 none (retV Pr 10 Q) 225 [6, 8, 9, 10, 11] [.code (cc 10 8378358), .inBlock 0, .code (cc 10 1023)] [] [t6, t8, t9, t10, t11] h
noncomputable def A10_16 (Q : Value → AH → Prop) (t6 t8 t10 t11 : Value) (h : AH) : Prop := Pt Pr K 10 none (retV Pr 10 Q) 225 [6, 8, 10, 11] [.code (cc 10 8378359), .inBlock 0, .code (cc 10 1023)] [] [t6, t8, t10, t11] h
noncomputable def A10_17 (Q : Value → AH → Prop) (t0 t2 t6 t8 t9 t10 t11 : Value) (h : AH) : Prop := Pt Pr K 10 none (retV Pr 10 Q) 225 [0, 2, 6, 8, 9, 10, 11] [.code (cc 10 8378364), .code (cc 10 8378365), .inBlock 0, .code (cc 10 1023)] [] [t0, t2, t6, t8, t9, t10, t11] h
noncomputable def A10_18 (Q : Value → AH → Prop) (t0 t2 t6 t8 t9 t10 t11 t70 t114 : Value) (h : AH) : Prop := Pt Pr K 10 none (retV Pr 10 Q) 225 [0, 2, 6, 8, 9, 10, 11, 70, 114] [.code (cc 10 8378366), .code (cc 10 8378367), .inBlock 0, .code (cc 10 1023)] [] [t0, t2, t6, t8, t9, t10, t11, t70, t114] h
noncomputable def A10_19 (Q : Value → AH → Prop) (t6 t8 t9 t10 : Value) (h : AH) : Prop := Pt Pr K 10 none (retV Pr 10 Q) 225 [6, 8, 9, 10] [.code (cc 10 33513468), .code (cc 10 33513469), .inBlock 0, .code (cc 10 1023)] [] [t6, t8, t9, t10] h
noncomputable def A10_20 (Q : Value → AH → Prop) (t0 t2 t6 t8 t9 t10 t11 t70 t114 : Value) (h : AH) : Prop := Pt Pr K 10 none (retV Pr 10 Q) 225 [0, 2, 6, 8, 9, 10, 11, 70, 114] [.code (cc 10 33513470), .code (cc 10 33513471), .inBlock 0, .code (cc 10 1023)] [] [t0, t2, t6, t8, t9, t10, t11, t70, t114] h
noncomputable def A10_21 (Q : Value → AH → Prop) (t0 t2 t6 t8 t9 t10 t11 t70 t114 : Value) (h : AH) : Prop := Pt Pr K 10 none (retV Pr 10 Q) 225 [0, 2, 6, 8, 9, 10, 11, 70, 114] [.code (cc 10 134053884), .code (cc 10 134053885), .inBlock 0, .code (cc 10 1023)] [] [t0, t2, t6, t8, t9, t10, t11, t70, t114] h
noncomputable def A10_22 (Q : Value → AH → Prop) (t0 t2 t6 t8 t9 t10 t11 t70 t114 : Value) (h : AH) : Prop := Pt Pr K 10 none (retV Pr 10 Q) 225 [0, 2, 6, 8, 9, 10, 11, 70, 114] [.code (cc 10 2046), .code (cc 10 2047)] [] [t0, t2, t6, t8, t9, t10, t11, t70, t114] h
noncomputable def A10_23 (Q : Value → AH → Prop) (t6 t8 t9 t10 : Value) (h : AH) : Prop := Pt Pr K 10 none (retV Pr 10 Q) 225 [6, 8, 9, 10] [.code (cc 10 536215542), .inBlock 0, .code (cc 10 1023)] [] [t6, t8, t9, t10] h
theorem b10_0 {h : AH} {Q : Value → AH → Prop} {t0 t1 t2 : Value} (H :
 alc h (.cells [(I 0), (I 0), (I 0), (I 0), (I 0), (I 0), (I 0)] 44 (0, 0) true) fun p1 h0 =>
 thn (biP .eql t0 (.pointer none)) fun v2 =>
 Br v2 (
 thn (fillL [(I 0), (I 0), (I 0), (I 0), (I 0), (I 0), (I 0)] []) fun c3 =>
 thn (stV h0 7 (pt p1 0 0) (.agg ⟨c3⟩)) fun h4 =>
 thn (ldN h4 7 (pt p1 0 0)) fun v5 =>
 Q (.tuple ⟨[v5, (I 2)]⟩) h4) (
 A10_1 Q t0 t1 t2 (pt p1 0 0) h0)
) : A10_0 Q t0 t1 t2 h := by intro e he; cases he; exact bF L10 (by kernel_rfl) H
theorem b10_1 {h : AH} {Q : Value → AH → Prop} {t0 t1 t2 t6 : Value} (H :
 thn (nilV t0) fun v0 =>
 thn (padd 7 v0) fun v1 =>
 thn (ld1 h v1) fun v2 =>
 thn (lenS v2) fun v3 =>
 thn (biI .sub v3 (I 1)) fun v4 =>
 thn (fillL [(I 0)] [(0, 1, t1)]) fun l6 =>
 alcS h 1 3 l6 1 1 fun s7 h5 =>
 Cl Pr K 24 [(I 0), v4, s7] h5 fun v8 h8 => -- donjon/atom.within
 thn (unV .not v8) fun v9 =>
 Br v9 (
 thn (fillL [(I 0), (I 0), (I 0), (I 0), (I 0), (I 0), (I 0)] []) fun c10 =>
 thn (stV h8 7 t6 (.agg ⟨c10⟩)) fun h11 =>
 thn (ldN h11 7 t6) fun v12 =>
 Q (.tuple ⟨[v12, (I 10)]⟩) h11) (
 A10_2 Q t0 t1 t2 t6 h8)
) : A10_1 Q t0 t1 t2 t6 h := by intro e he; cases he; exact bF L10 (by kernel_rfl) H
theorem b10_2 {h : AH} {Q : Value → AH → Prop} {t0 t1 t2 t6 : Value} (H :
 thn (nilV t0) fun v0 =>
 thn (padd 7 v0) fun v1 =>
 thn (ld1 h v1) fun v2 =>
 thn (idxS 8 v2 t1) fun v3 =>
 thn (nilV v3) fun v4 =>
 thn (padd 0 v4) fun v5 =>
 thn (padd 6 v5) fun v6 =>
 thn (ld1 h v6) fun v7 =>
 Br v7 (
 thn (fillL [(I 0), (I 0), (I 0), (I 0), (I 0), (I 0), (I 0)] []) fun c8 =>
 thn (stV h 7 t6 (.agg ⟨c8⟩)) fun h9 =>
 thn (ldN h9 7 t6) fun v10 =>
 Q (.tuple ⟨[v10, (I 20)]⟩) h9) (
 A10_3 Q t0 t1 t2 t6 v3 h)
) : A10_2 Q t0 t1 t2 t6 h := by intro e he; cases he; exact bF L10 (by kernel_rfl) H
theorem b10_3 {h : AH} {Q : Value → AH → Prop} {t0 t1 t2 t6 t8 : Value} (H :
 resv h 13 fun r1 h0 =>
 thn (nilV t8) fun v2 =>
 thn (padd 7 v2) fun v3 =>
 thn (ld1 h0 v3) fun v4 =>
 thn (nilV t8) fun v5 =>
 thn (padd 0 v5) fun v6 =>
 thn (padd 4 v6) fun v7 =>
 thn (ld1 h0 v7) fun v8 =>
 thn (idxS 4 v4 v8) fun v9 =>
 thn (ldN h0 4 v9) fun v10 =>
 alcAt h0 (r1 + 11) (.cells [(I 0), (I 0), (I 0), (I 0)] 52 (0, 0) true) fun p12 h11 =>
 thn (stV h11 4 (pt p12 0 0) v10) fun h13 =>
 resv h13 16 fun r15 h14 =>
 thn (nilV t8) fun v16 =>
 thn (padd 0 v16) fun v17 =>
 thn (padd 4 v17) fun v18 =>
 thn (ld1 h14 v18) fun v19 =>
 thn (padd 0 (pt p12 0 0)) fun v20 =>
 thn (ld1 h14 v20) fun v21 =>
 thn (nilV t8) fun v22 =>
 thn (padd 0 v22) fun v23 =>
 thn (padd 5 v23) fun v24 =>
 thn (ld1 h14 v24) fun v25 =>
 thn (fillL [(I 0), (I 0), (I 0), (I 0), (I 0), (I 0), (I 0)] [(0, 1, t1), (1, 1, v19), (2, 1, v21), (3, 1, v25)]) fun c26 =>
 alcAt h14 (r15 + 14) (.cells [(I 0), (I 0), (I 0), (I 0), (I 0), (I 0), (I 0)] 44 (0, 0) true) fun p28 h27 =>
 thn (stV h27 7 (pt p28 0 0) (.agg ⟨c26⟩)) fun h29 =>
 thn (nilV t8) fun v30 =>
 thn (padd 0 v30) fun v31 =>
 thn (padd 4 v31) fun v32 =>
 thn (ld1 h29 v32) fun v33 =>
 thn (biI .add v33 (I 1)) fun v34 =>
 thn (padd 0 (pt p12 0 0)) fun v35 =>
 thn (ld1 h29 v35) fun v36 =>
 thn (biI .eql v36 (I 1)) fun v37 =>
 Br v37 (
 A10_4 Q t6 t8 (pt p12 0 0) (pt p28 0 0) v34 h29) (
 A10_5 Q t0 t2 t6 t8 (pt p12 0 0) (pt p28 0 0) v34 v36 h29)
) : A10_3 Q t0 t1 t2 t6 t8 h := by intro e he; cases he; exact bF L10 (by kernel_rfl) H
theorem b10_4 {h : AH} {Q : Value → AH → Prop} {t6 t8 t9 t10 t11 : Value} (H :
 thn (padd 2 t9) fun v0 =>
 thn (ld1 h v0) fun v1 =>
 thn (padd 5 t10) fun v2 =>
 thn (stV h 1 v2 v1) fun h3 =>
 resv h3 10 fun r5 h4 =>
 thn (padd 1 t9) fun v6 =>
 thn (ld1 h4 v6) fun v7 =>
 thn (padd 2 t9) fun v8 =>
 thn (ld1 h4 v8) fun v9 =>
 thn (nilV t8) fun v10 =>
 thn (padd 0 v10) fun v11 =>
 thn (padd 0 v11) fun v12 =>
 thn (idxA 4 1 v12 v7) fun v13 =>
 thn (stV h4 1 v13 v9) fun h14 =>
 Cl Pr K 29 [t8, t11] h14 fun v15 h15 => -- (*donjon/atom.seat).turn
 thn (ldN h15 7 t10) fun v16 =>
 thn (stV h15 7 t6 v16) fun h17 =>
 thn (ldN h17 7 t6) fun v18 =>
 Q (.tuple ⟨[v18, (I 0)]⟩) h17
) : A10_4 Q t6 t8 t9 t10 t11 h := by intro e he; cases he; exact bF L10 (by kernel_rfl) H
theorem b10_5 {h : AH} {Q : Value → AH → Prop} {t0 t2 t6 t8 t9 t10 t11 t70 : Value} (H :
 thn (biI .eql t70 (I 2)) fun v0 =>
 Br v0 (
 A10_6 Q t6 t8 t9 t10 t11 h) (
 A10_7 Q t0 t2 t6 t8 t9 t10 t11 t70 h)
) : A10_5 Q t0 t2 t6 t8 t9 t10 t11 t70 h := by intro e he; cases he; exact bF L10 (by kernel_rfl) H
theorem b10_6 {h : AH} {Q : Value → AH → Prop} {t6 t8 t9 t10 t11 : Value} (H :
 resv h 19 fun r1 h0 =>
 thn (padd 2 t9) fun v2 =>
 thn (ld1 h0 v2) fun v3 =>
 thn (nilV t8) fun v4 =>
 thn (padd 0 v4) fun v5 =>
 thn (padd 0 v5) fun v6 =>
 thn (idxA 4 1 v6 v3) fun v7 =>
 thn (ld1 h0 v7) fun v8 =>
 thn (padd 3 t9) fun v9 =>
 thn (ld1 h0 v9) fun v10 =>
 thn (nilV t8) fun v11 =>
 thn (padd 0 v11) fun v12 =>
 thn (padd 0 v12) fun v13 =>
 thn (idxA 4 1 v13 v10) fun v14 =>
 thn (ld1 h0 v14) fun v15 =>
 thn (biI .add v8 v15) fun v16 =>
 thn (padd 5 t10) fun v17 =>
 thn (stV h0 1 v17 v16) fun h18 =>
 resv h18 10 fun r20 h19 =>
 thn (padd 1 t9) fun v21 =>
 thn (ld1 h19 v21) fun v22 =>
 thn (padd 5 t10) fun v23 =>
 thn (ld1 h19 v23) fun v24 =>
 thn (nilV t8) fun v25 =>
 thn (padd 0 v25) fun v26 =>
 thn (padd 0 v26) fun v27 =>
 thn (idxA 4 1 v27 v22) fun v28 =>
 thn (stV h19 1 v28 v24) fun h29 =>
 Cl Pr K 29 [t8, t11] h29 fun v30 h30 => -- (*donjon/atom.seat).turn
 thn (ldN h30 7 t10) fun v31 =>
 thn (stV h30 7 t6 v31) fun h32 =>
 thn (ldN h32 7 t6) fun v33 =>
 Q (.tuple ⟨[v33, (I 0)]⟩) h32
) : A10_6 Q t6 t8 t9 t10 t11 h := by intro e he; cases he; exact bF L10 (by kernel_rfl) H
theorem b10_7 {h : AH} {Q : Value → AH → Prop} {t0 t2 t6 t8 t9 t10 t11 t70 : Value} (H :
 thn (biI .eql t70 (I 3)) fun v0 =>
 Br v0 (
 A10_8 Q t0 t2 t6 t8 t9 t10 t11 t70 v0 h) (
 A10_9 Q t0 t2 t6 t8 t9 t10 t11 t70 h)
) : A10_7 Q t0 t2 t6 t8 t9 t10 t11 t70 h := by intro e he; cases he; exact bF L10 (by kernel_rfl) H
theorem b10_8 {h : AH} {Q : Value → AH → Prop} {t0 t2 t6 t8 t9 t10 t11 t70 t114 : Value} (H :
 Br t114 (
 A10_10 Q t0 t6 t8 t9 t10 t11 h) (
 A10_11 Q t0 t2 t6 t8 t9 t10 t11 t70 t114 h)
) : A10_8 Q t0 t2 t6 t8 t9 t10 t11 t70 t114 h := by intro e he; cases he; exact bF L10 (by kernel_rfl) H
theorem b10_9 {h : AH} {Q : Value → AH → Prop} {t0 t2 t6 t8 t9 t10 t11 t70 : Value} (H :
 thn (biI .eql t70 (I 4)) fun v0 =>
 Br v0 (
 A10_8 Q t0 t2 t6 t8 t9 t10 t11 t70 v0 h) (
 A10_12 Q t0 t2 t6 t8 t9 t10 t11 t70 h)
) : A10_9 Q t0 t2 t6 t8 t9 t10 t11 t70 h := by intro e he; cases he; exact bF L10 (by kernel_rfl) H
theorem b10_10 {h : AH} {Q : Value → AH → Prop} {t0 t6 t8 t9 t10 t11 : Value} (H :
 resv h 10 fun r1 h0 =>
 thn (padd 2 t9) fun v2 =>
 thn (ld1 h0 v2) fun v3 =>
 thn (nilV t8) fun v4 =>
 thn (padd 0 v4) fun v5 =>
 thn (padd 0 v5) fun v6 =>
 thn (idxA 4 1 v6 v3) fun v7 =>
 thn (ld1 h0 v7) fun v8 =>
 thn (padd 4 t10) fun v9 =>
 thn (stV h0 1 v9 v8) fun h10 =>
 thn (ldN h10 4 t9) fun v11 =>
 Cl Pr K 32 [t0, t8, v11] h10 fun v12 h12 => -- (*donjon/atom.Machine).access
 thn (extV 0 v12) fun v13 =>
 thn (extV 1 v12) fun v14 =>
 thn (padd 5 t10) fun v15 =>
 thn (stV h12 1 v15 v13) fun h16 =>
 thn (padd 6 t10) fun v17 =>
 thn (stV h16 1 v17 v14) fun h18 =>
 Cl Pr K 29 [t8, t11] h18 fun v19 h19 => -- (*donjon/atom.seat).turn
 thn (ldN h19 7 t10) fun v20 =>
 thn (stV h19 7 t6 v20) fun h21 =>
 thn (ldN h21 7 t6) fun v22 =>
 Q (.tuple ⟨[v22, (I 0)]⟩) h21
) : A10_10 Q t0 t6 t8 t9 t10 t11 h := by intro e he; cases he; exact bF L10 (by kernel_rfl) H
theorem b10_11 {h : AH} {Q : Value → AH → Prop} {t0 t2 t6 t8 t9 t10 t11 t70 t114 : Value} (H :
 thn (biI .eql t70 (I 7)) fun v0 =>
 Br v0 (
 A10_13 Q t6 t8 t9 t10 t11 h) (
 A10_14 Q t0 t2 t6 t8 t9 t10 t11 t70 t114 h)
) : A10_11 Q t0 t2 t6 t8 t9 t10 t11 t70 t114 h := by intro e he; cases he; exact bF L10 (by kernel_rfl) H
theorem b10_12 {h : AH} {Q : Value → AH → Prop} {t0 t2 t6 t8 t9 t10 t11 t70 : Value} (H :
 thn (biI .eql t70 (I 5)) fun v0 =>
 Br v0 (
 A10_10 Q t0 t6 t8 t9 t10 t11 h) (
 A10_11 Q t0 t2 t6 t8 t9 t10 t11 t70 v0 h)
) : A10_12 Q t0 t2 t6 t8 t9 t10 t11 t70 h := by intro e he; cases he; exact bF L10 (by kernel_rfl) H
theorem b10_13 {h : AH} {Q : Value → AH → Prop} {t6 t8 t9 t10 t11 : Value} (H :
 thn (padd 1 t9) fun v0 =>
 thn (ld1 h v0) fun v1 =>
 thn (padd 5 t10) fun v2 =>
 thn (stV h 1 v2 v1) fun h3 =>
 thn (nilV t8) fun v4 =>
 thn (padd 0 v4) fun v5 =>
 thn (padd 5 v5) fun v6 =>
 thn (ld1 h3 v6) fun v7 =>
 thn (biI .eql v7 (I 0)) fun v8 =>
 Br v8 (
 A10_15 Q t6 t8 t9 t10 t11 h3) (
 A10_16 Q t6 t8 t10 t11 h3)
) : A10_13 Q t6 t8 t9 t10 t11 h := by intro e he; cases he; exact bF L10 (by kernel_rfl) H
theorem b10_14 {h : AH} {Q : Value → AH → Prop} {t0 t2 t6 t8 t9 t10 t11 t70 t114 : Value} (H :
 thn (biI .eql t70 (I 8)) fun v0 =>
 Br v0 (
 A10_17 Q t0 t2 t6 t8 t9 t10 t11 h) (
 A10_18 Q t0 t2 t6 t8 t9 t10 t11 t70 t114 h)
) : A10_14 Q t0 t2 t6 t8 t9 t10 t11 t70 t114 h := by intro e he; cases he; exact bF L10 (by kernel_rfl) H
theorem b10_15 {h : AH} {Q : Value → AH → Prop} {t6 t8 t9 t10 t11 : Value} (H :
 thn (padd 1 t9) fun v0 =>
 thn (ld1 h v0) fun v1 =>
 thn (nilV t8) fun v2 =>
 thn (padd 0 v2) fun v3 =>
 thn (padd 5 v3) fun v4 =>
 thn (stV h 1 v4 v1) fun h5 =>
 Cl Pr K 29 [t8, t11] h5 fun v6 h6 => -- (*donjon/atom.seat).turn
 thn (ldN h6 7 t10) fun v7 =>
 thn (stV h6 7 t6 v7) fun h8 =>
 thn (ldN h8 7 t6) fun v9 =>
 Q (.tuple ⟨[v9, (I 0)]⟩) h8
) : A10_15 Q t6 t8 t9 t10 t11 h := by intro e he; cases he; exact bF L10 (by kernel_rfl) H
theorem b10_16 {h : AH} {Q : Value → AH → Prop} {t6 t8 t10 t11 : Value} (H :
 thn (padd 6 t10) fun v0 =>
 thn (stV h 1 v0 (I 18)) fun h1 =>
 Cl Pr K 29 [t8, t11] h1 fun v2 h2 => -- (*donjon/atom.seat).turn
 thn (ldN h2 7 t10) fun v3 =>
 thn (stV h2 7 t6 v3) fun h4 =>
 thn (ldN h4 7 t6) fun v5 =>
 Q (.tuple ⟨[v5, (I 0)]⟩) h4
) : A10_16 Q t6 t8 t10 t11 h := by intro e he; cases he; exact bF L10 (by kernel_rfl) H
theorem b10_17 {h : AH} {Q : Value → AH → Prop} {t0 t2 t6 t8 t9 t10 t11 : Value} (H :
 resv h 20 fun r1 h0 =>
 thn (padd 2 t9) fun v2 =>
 thn (ld1 h0 v2) fun v3 =>
 thn (nilV t8) fun v4 =>
 thn (padd 0 v4) fun v5 =>
 thn (padd 0 v5) fun v6 =>
 thn (idxA 4 1 v6 v3) fun v7 =>
 thn (ld1 h0 v7) fun v8 =>
 thn (padd 3 t9) fun v9 =>
 thn (ld1 h0 v9) fun v10 =>
 thn (nilV t8) fun v11 =>
 thn (padd 0 v11) fun v12 =>
 thn (padd 0 v12) fun v13 =>
 thn (idxA 4 1 v13 v10) fun v14 =>
 thn (ld1 h0 v14) fun v15 =>
 thn (padd 4 t10) fun v16 =>
 thn (stV h0 1 v16 v8) fun h17 =>
 thn (padd 5 t10) fun v18 =>
 thn (stV h17 1 v18 v15) fun h19 =>
(veq t8 t8 = true) ∧ (
(thn (padd 3 t9) fun v20 =>
 veq v20 v9 = true) ∧ (
(thn (ld1 h17 v9) fun v21 =>
 veq v21 v10 = true) ∧ (
(thn (nilV t8) fun v22 =>
 veq v22 v11 = true) ∧ (
(thn (padd 0 v11) fun v23 =>
 veq v23 v12 = true) ∧ (
(thn (padd 0 v12) fun v24 =>
 veq v24 v13 = true) ∧ (
(thn (idxA 4 1 v13 v10) fun v25 =>
 veq v25 v14 = true) ∧ (
(thn (ld1 h17 v14) fun v26 =>
 veq v26 v15 = true) ∧ (
 resv h19 16 fun r28 h27 =>
 thn (padd 1 t9) fun v29 =>
 thn (ld1 h27 v29) fun v30 =>
 thn (nilV t8) fun v31 =>
 thn (padd 0 v31) fun v32 =>
 thn (padd 5 v32) fun v33 =>
 thn (ld1 h27 v33) fun v34 =>
 thn (padd 4 t10) fun v35 =>
 thn (ld1 h27 v35) fun v36 =>
 thn (padd 5 t10) fun v37 =>
 thn (ld1 h27 v37) fun v38 =>
 Cl Pr K 33 [t0, v30, v34, v36, v38, t2] h27 fun v39 h39 => -- (*donjon/atom.Machine).call
 thn (padd 6 t10) fun v40 =>
 thn (stV h39 1 v40 v39) fun h41 =>
 resv h41 10 fun r43 h42 =>
 thn (padd 2 t9) fun v44 =>
 thn (ld1 h42 v44) fun v45 =>
 thn (padd 6 t10) fun v46 =>
 thn (ld1 h42 v46) fun v47 =>
 thn (nilV t8) fun v48 =>
 thn (padd 0 v48) fun v49 =>
 thn (padd 0 v49) fun v50 =>
 thn (idxA 4 1 v50 v45) fun v51 =>
 thn (stV h42 1 v51 v47) fun h52 =>
 Cl Pr K 29 [t8, t11] h52 fun v53 h53 => -- (*donjon/atom.seat).turn
 thn (ldN h53 7 t10) fun v54 =>
 thn (stV h53 7 t6 v54) fun h55 =>
 thn (ldN h55 7 t6) fun v56 =>
 Q (.tuple ⟨[v56, (I 0)]⟩) h55))))))))
) : A10_17 Q t0 t2 t6 t8 t9 t10 t11 h := by intro e he; cases he; exact bF L10 (by kernel_rfl) H
theorem b10_18 {h : AH} {Q : Value → AH → Prop} {t0 t2 t6 t8 t9 t10 t11 t70 t114 : Value} (H :
 thn (biI .eql t70 (I 9)) fun v0 =>
 Br v0 (
 A10_19 Q t6 t8 t9 t10 h) (
 A10_20 Q t0 t2 t6 t8 t9 t10 t11 t70 t114 h)
) : A10_18 Q t0 t2 t6 t8 t9 t10 t11 t70 t114 h := by intro e he; cases he; exact bF L10 (by kernel_rfl) H
theorem b10_19 {h : AH} {Q : Value → AH → Prop} {t6 t8 t9 t10 : Value} (H :
 thn (padd 1 t9) fun v0 =>
 thn (ld1 h v0) fun v1 =>
 thn (padd 5 t10) fun v2 =>
 thn (stV h 1 v2 v1) fun h3 =>
 thn (padd 1 t9) fun v4 =>
 thn (ld1 h3 v4) fun v5 =>
 Cl Pr K 29 [t8, v5] h3 fun v6 h6 => -- (*donjon/atom.seat).turn
 thn (ldN h6 7 t10) fun v7 =>
 thn (stV h6 7 t6 v7) fun h8 =>
 thn (ldN h8 7 t6) fun v9 =>
 Q (.tuple ⟨[v9, (I 0)]⟩) h8
) : A10_19 Q t6 t8 t9 t10 h := by intro e he; cases he; exact bF L10 (by kernel_rfl) H
theorem b10_20 {h : AH} {Q : Value → AH → Prop} {t0 t2 t6 t8 t9 t10 t11 t70 t114 : Value} (H :
 thn (biI .eql t70 (I 10)) fun v0 =>
 Br v0 (
 A10_21 Q t0 t2 t6 t8 t9 t10 t11 t70 t114 h) (
 A10_22 Q t0 t2 t6 t8 t9 t10 t11 t70 t114 h)
) : A10_20 Q t0 t2 t6 t8 t9 t10 t11 t70 t114 h := by intro e he; cases he; exact bF L10 (by kernel_rfl) H
theorem b10_21 {h : AH} {Q : Value → AH → Prop} {t0 t2 t6 t8 t9 t10 t11 t70 t114 : Value} (H :
 resv h 10 fun r1 h0 =>
 thn (padd 1 t9) fun v2 =>
 thn (ld1 h0 v2) fun v3 =>
 thn (nilV t8) fun v4 =>
 thn (padd 0 v4) fun v5 =>
 thn (padd 0 v5) fun v6 =>
 thn (idxA 4 1 v6 v3) fun v7 =>
 thn (ld1 h0 v7) fun v8 =>
 thn (padd 5 t10) fun v9 =>
 thn (stV h0 1 v9 v8) fun h10 =>
 thn (padd 5 t10) fun v11 =>
 thn (ld1 h10 v11) fun v12 =>
 thn (biI .eql v12 (I 0)) fun v13 =>
 Br v13 (
 A10_23 Q t6 t8 t9 t10 h10) (
 A10_22 Q t0 t2 t6 t8 t9 t10 t11 t70 t114 h10)
) : A10_21 Q t0 t2 t6 t8 t9 t10 t11 t70 t114 h := by intro e he; cases he; exact bF L10 (by kernel_rfl) H
theorem b10_22 {h : AH} {Q : Value → AH → Prop} {t0 t2 t6 t8 t9 t10 t11 t70 t114 : Value} (H :
 Cl Pr K 29 [t8, t11] h fun v0 h0 => -- (*donjon/atom.seat).turn
 thn (ldN h0 7 t10) fun v1 =>
 thn (stV h0 7 t6 v1) fun h2 =>
 thn (ldN h2 7 t6) fun v3 =>
 Q (.tuple ⟨[v3, (I 0)]⟩) h2
) : A10_22 Q t0 t2 t6 t8 t9 t10 t11 t70 t114 h := by intro e he; cases he; exact bF L10 (by kernel_rfl) H
theorem b10_23 {h : AH} {Q : Value → AH → Prop} {t6 t8 t9 t10 : Value} (H :
 thn (padd 2 t9) fun v0 =>
 thn (ld1 h v0) fun v1 =>
 Cl Pr K 29 [t8, v1] h fun v2 h2 => -- (*donjon/atom.seat).turn
 thn (ldN h2 7 t10) fun v3 =>
 thn (stV h2 7 t6 v3) fun h4 =>
 thn (ldN h4 7 t6) fun v5 =>
 Q (.tuple ⟨[v5, (I 0)]⟩) h4
) : A10_23 Q t6 t8 t9 t10 h := by intro e he; cases he; exact bF L10 (by kernel_rfl) H
theorem c10 {h : AH} {Q : Value → AH → Prop} {a0 a1 a2 : Value} (H : A10_0 Q a0 a1 a2 h) : Cl Pr K 10 [a0, a1, a2] h Q :=
  ok_enter (by kernel_rfl) (by kernel_rfl) (Eq.mp (by kernel_rfl) (H (fun i => ([a0, a1, a2] : List Value).getD i undef) rfl))

/-! ### 11 donjon/donjonref18.Error: params 2, captured 0, results [tmp 4] -/
noncomputable def L11 : List (Option Nat × List Nat) := [(some 0, [0, 1]), (some 3, [0, 1])]
noncomputable def A11_0 (Q : Value → AH → Prop) (t0 t1 : Value) (h : AH) : Prop := Pt Pr K 11 none (retV Pr 11 Q) 13 [0, 1] [.code (cc 11 2), .code (cc 11 3)] [] [t0, t1] h
noncomputable def A11_1 (Q : Value → AH → Prop) (t0 t1 : Value) (h : AH) : Prop := Pt Pr K 11 none (retV Pr 11 Q) 13 [0, 1] [.code (cc 11 28), .code (cc 11 29), .code (cc 11 15)] [] [t0, t1] h
theorem b11_0 {h : AH} {Q : Value → AH → Prop} {t0 t1 : Value} (H :
 thn (biI .eql t0 (I 20)) fun v0 =>
 Br v0 (
 Q (I 20) h) (
 A11_1 Q t0 t1 h)
) : A11_0 Q t0 t1 h := by intro e he; cases he; exact bF L11 (by kernel_rfl) H
theorem b11_1 {h : AH} {Q : Value → AH → Prop} {t0 t1 : Value} (H :
 thn (biI .neq t0 (I 0)) fun v0 =>
 Br v0 (
 Q (I 16) h) (
 thn (unV .not t1) fun v1 =>
 Br v1 (
 Q (I 16) h) (
 Q (I 0) h))
) : A11_1 Q t0 t1 h := by intro e he; cases he; exact bF L11 (by kernel_rfl) H
theorem c11 {h : AH} {Q : Value → AH → Prop} {a0 a1 : Value} (H : A11_0 Q a0 a1 h) : Cl Pr K 11 [a0, a1] h Q :=
  ok_enter (by kernel_rfl) (by kernel_rfl) (Eq.mp (by kernel_rfl) (H (fun i => ([a0, a1] : List Value).getD i undef) rfl))

/-! ### 12 donjon/donjonlaw18.same: params 3, captured 0, results [tmp 6] -/
noncomputable def L12 : List (Option Nat × List Nat) := [(some 0, [0, 1, 2]), (some 3, [1, 3, 5, 7, 8]), (some 5, [1, 3, 5, 7, 8]), (some 7, [1, 3, 5, 7]), (some 9, [1, 3, 5, 7, 11, 12]), (some 11, [1, 3, 5, 7, 11, 12]), (some 13, [1, 3, 5, 7, 11]), (some 15, [1, 3, 5, 7, 11, 15, 16]), (some 17, [1, 3, 5, 7, 11, 15, 16])]
noncomputable def A12_0 (Q : Value → AH → Prop) (t0 t1 t2 : Value) (h : AH) : Prop := Pt Pr K 12 none (retV Pr 12 Q) 86 [0, 1, 2] [.code (cc 12 2), .code (cc 12 3)] [] [t0, t1, t2] h
noncomputable def A12_1 (Q : Value → AH → Prop) (t1 t3 t5 t7 t8 : Value) (h : AH) : Prop := Pt Pr K 12 none (retV Pr 12 Q) 86 [1, 3, 5, 7, 8] [.code (cc 12 464), .code (cc 12 465), .code (cc 12 233), .inLoop (cc 12 116), .inBlock 0, .code (cc 12 15)] [] [t1, t3, t5, t7, t8] h
noncomputable def A12_2 (Q : Value → AH → Prop) (t1 t3 t5 t7 t8 : Value) (h : AH) : Prop := Pt Pr K 12 none (retV Pr 12 Q) 86 [1, 3, 5, 7, 8] [.code (cc 12 1864), .code (cc 12 1865), .inBlock 1, .code (cc 12 467), .inLoop (cc 12 116), .inBlock 0, .code (cc 12 15)] [] [t1, t3, t5, t7, t8] h
noncomputable def A12_3 (Q : Value → AH → Prop) (t1 t3 t5 t7 : Value) (h : AH) : Prop := Pt Pr K 12 none (retV Pr 12 Q) 86 [1, 3, 5, 7] [.code (cc 12 30), .code (cc 12 31)] [] [t1, t3, t5, t7] h
noncomputable def A12_4 (Q : Value → AH → Prop) (t1 t3 t5 t7 t11 t12 : Value) (h : AH) : Prop := Pt Pr K 12 none (retV Pr 12 Q) 86 [1, 3, 5, 7, 11, 12] [.code (cc 12 2000), .code (cc 12 2001), .code (cc 12 1001), .inLoop (cc 12 500), .inBlock 2, .code (cc 12 63)] [] [t1, t3, t5, t7, t11, t12] h
noncomputable def A12_5 (Q : Value → AH → Prop) (t1 t3 t5 t7 t11 t12 : Value) (h : AH) : Prop := Pt Pr K 12 none (retV Pr 12 Q) 86 [1, 3, 5, 7, 11, 12] [.code (cc 12 8008), .code (cc 12 8009), .inBlock 3, .code (cc 12 2003), .inLoop (cc 12 500), .inBlock 2, .code (cc 12 63)] [] [t1, t3, t5, t7, t11, t12] h
noncomputable def A12_6 (Q : Value → AH → Prop) (t1 t3 t5 t7 t11 : Value) (h : AH) : Prop := Pt Pr K 12 none (retV Pr 12 Q) 86 [1, 3, 5, 7, 11] [.code (cc 12 126), .code (cc 12 127)] [] [t1, t3, t5, t7, t11] h
noncomputable def A12_7 (Q : Value → AH → Prop) (t1 t3 t5 t7 t11 t15 t16 : Value) (h : AH) : Prop := Pt Pr K 12 none (retV Pr 12 Q) 86 [1, 3, 5, 7, 11, 15, 16] [.code (cc 12 8144), .code (cc 12 8145), .code (cc 12 4073), .inLoop (cc 12 2036), .inBlock 4, .code (cc 12 255)] [] [t1, t3, t5, t7, t11, t15, t16] h
noncomputable def A12_8 (Q : Value → AH → Prop) (t1 t3 t5 t7 t11 t15 t16 : Value) (h : AH) : Prop := Pt Pr K 12 none (retV Pr 12 Q) 86 [1, 3, 5, 7, 11, 15, 16] [.code (cc 12 32584), .code (cc 12 32585), .inBlock 5, .code (cc 12 8147), .inLoop (cc 12 2036), .inBlock 4, .code (cc 12 255)] [] [t1, t3, t5, t7, t11, t15, t16] h
theorem b12_0 {h : AH} {Q : Value → AH → Prop} {t0 t1 t2 : Value} (H :
 thn (blkOf 33 t0) fun b1 =>
 alc h b1 fun p2 h0 =>
 thn (blkOf 27 t2) fun b4 =>
 alc h0 b4 fun p5 h3 =>
 A12_1 Q t1 (pt p2 0 0) (pt p5 0 0) (.slice none 0 0) (I 0) h3
) : A12_0 Q t0 t1 t2 h := by intro e he; cases he; exact bF L12 (by kernel_rfl) H
theorem b12_1 {h : AH} {Q : Value → AH → Prop} {t1 t3 t5 t7 t8 : Value} (H :
 thn (padd 0 t5) fun v0 =>
 thn (padd 0 v0) fun v1 =>
 thn (ld1 h v1) fun v2 =>
 thn (biI .lss t8 v2) fun v3 =>
 Br v3 (
 A12_2 Q t1 t3 t5 t7 t8 h) (
 A12_3 Q t1 t3 t5 t7 h)
) : A12_1 Q t1 t3 t5 t7 t8 h := by intro e he; cases he; exact bF L12 (by kernel_rfl) H
theorem b12_2 {h : AH} {Q : Value → AH → Prop} {t1 t3 t5 t7 t8 : Value} (H :
 Cl Pr K 17 [t1, t8] h fun v0 h0 => -- (*donjon/atom.Machine).Core
 thn (extV 0 v0) fun v1 =>
 thn (extV 1 v0) fun v2 =>
 alc h0 (.cells [(I 0), (I 0), (I 0), (I 0), (I 0), (I 0), (.bool false)] 55 (0, 0) true) fun p4 h3 =>
 thn (stV h3 7 (pt p4 0 0) v1) fun h5 =>
 thn (ldN h5 7 (pt p4 0 0)) fun v6 =>
 thn (fillL [(I 0), (I 0), (I 0), (I 0), (I 0), (I 0), (.bool false)] [(0, 7, v6)]) fun l8 =>
 alcS h5 7 55 l8 1 1 fun s9 h7 =>
 thn (appV 7 56 55 h7 t7 s9) fun r10 => (fun v11 h12 =>
 thn (biI .add t8 (I 1)) fun v13 =>
 A12_1 Q t1 t3 t5 v11 v13 h12) r10.1 r10.2
) : A12_2 Q t1 t3 t5 t7 t8 h := by intro e he; cases he; exact bF L12 (by kernel_rfl) H
theorem b12_3 {h : AH} {Q : Value → AH → Prop} {t1 t3 t5 t7 : Value} (H :
 A12_4 Q t1 t3 t5 t7 (.slice none 0 0) (I 0) h
) : A12_3 Q t1 t3 t5 t7 h := by intro e he; cases he; exact bF L12 (by kernel_rfl) H
theorem b12_4 {h : AH} {Q : Value → AH → Prop} {t1 t3 t5 t7 t11 t12 : Value} (H :
 thn (padd 0 t5) fun v0 =>
 thn (padd 1 v0) fun v1 =>
 thn (ld1 h v1) fun v2 =>
 thn (biI .lss t12 v2) fun v3 =>
 Br v3 (
 A12_5 Q t1 t3 t5 t7 t11 t12 h) (
 A12_6 Q t1 t3 t5 t7 t11 h)
) : A12_4 Q t1 t3 t5 t7 t11 t12 h := by intro e he; cases he; exact bF L12 (by kernel_rfl) H
theorem b12_5 {h : AH} {Q : Value → AH → Prop} {t1 t3 t5 t7 t11 t12 : Value} (H :
 Cl Pr K 19 [t1, t12] h fun v0 h0 => -- (*donjon/atom.Machine).Owner
 thn (extV 0 v0) fun v1 =>
 thn (extV 1 v0) fun v2 =>
 thn (fillL [(I 0)] [(0, 1, v1)]) fun l4 =>
 alcS h0 1 3 l4 1 1 fun s5 h3 =>
 thn (appV 1 8 3 h3 t11 s5) fun r6 => (fun v7 h8 =>
 thn (biI .add t12 (I 1)) fun v9 =>
 A12_4 Q t1 t3 t5 t7 v7 v9 h8) r6.1 r6.2
) : A12_5 Q t1 t3 t5 t7 t11 t12 h := by intro e he; cases he; exact bF L12 (by kernel_rfl) H
theorem b12_6 {h : AH} {Q : Value → AH → Prop} {t1 t3 t5 t7 t11 : Value} (H :
 A12_7 Q t1 t3 t5 t7 t11 (.slice none 0 0) (I 0) h
) : A12_6 Q t1 t3 t5 t7 t11 h := by intro e he; cases he; exact bF L12 (by kernel_rfl) H
theorem b12_7 {h : AH} {Q : Value → AH → Prop} {t1 t3 t5 t7 t11 t15 t16 : Value} (H :
 thn (padd 0 t5) fun v0 =>
 thn (ldN h 7 v0) fun v1 =>
 Cl Pr K 22 [v1] h fun v2 h2 => -- donjon/place.Words
 thn (biI .lss t16 v2) fun v3 =>
 Br v3 (
 A12_8 Q t1 t3 t5 t7 t11 t15 t16 h2) (
 thn (padd 1 t3) fun v4 =>
 thn (ld1 h2 v4) fun v5 =>
 Cl Pr K 34 [v5, t7] h2 fun v6 h6 => -- donjon/donjonlaw18.cores
 Br v6 (
 thn (padd 2 t3) fun v7 =>
 thn (ld1 h6 v7) fun v8 =>
 Cl Pr K 35 [v8, t11] h6 fun v9 h9 => -- donjon/donjonlaw18.ints
 Br v9 (
 thn (padd 3 t3) fun v10 =>
 thn (ld1 h9 v10) fun v11 =>
 Cl Pr K 35 [v11, t15] h9 fun v12 h12 => -- donjon/donjonlaw18.ints
 Q v12 h12) (
 Q (.bool false) h9)) (
 Q (.bool false) h6))
) : A12_7 Q t1 t3 t5 t7 t11 t15 t16 h := by intro e he; cases he; exact bF L12 (by kernel_rfl) H
theorem b12_8 {h : AH} {Q : Value → AH → Prop} {t1 t3 t5 t7 t11 t15 t16 : Value} (H :
 Cl Pr K 20 [t1, t16] h fun v0 h0 => -- (*donjon/atom.Machine).Get
 thn (extV 0 v0) fun v1 =>
 thn (extV 1 v0) fun v2 =>
 thn (fillL [(I 0)] [(0, 1, v1)]) fun l4 =>
 alcS h0 1 3 l4 1 1 fun s5 h3 =>
 thn (appV 1 8 3 h3 t15 s5) fun r6 => (fun v7 h8 =>
 thn (biI .add t16 (I 1)) fun v9 =>
 A12_7 Q t1 t3 t5 t7 t11 v7 v9 h8) r6.1 r6.2
) : A12_8 Q t1 t3 t5 t7 t11 t15 t16 h := by intro e he; cases he; exact bF L12 (by kernel_rfl) H
theorem c12 {h : AH} {Q : Value → AH → Prop} {a0 a1 a2 : Value} (H : A12_0 Q a0 a1 a2 h) : Cl Pr K 12 [a0, a1, a2] h Q :=
  ok_enter (by kernel_rfl) (by kernel_rfl) (Eq.mp (by kernel_rfl) (H (fun i => ([a0, a1, a2] : List Value).getD i undef) rfl))

/-! ### 13 donjon/replay.begin: params 1, captured 0, results [tmp 2, tmp 3] -/
noncomputable def L13 : List (Option Nat × List Nat) := [(some 0, [0])]
noncomputable def A13_0 (Q : Value → AH → Prop) (t0 : Value) (h : AH) : Prop := Pt Pr K 13 none (retV Pr 13 Q) 17 [0] [.code (cc 13 2), .code (cc 13 3)] [] [t0] h
theorem b13_0 {h : AH} {Q : Value → AH → Prop} {t0 : Value} (H :
 thn (blkOf 27 t0) fun b1 =>
 alc h b1 fun p2 h0 =>
 thn (padd 0 (pt p2 0 0)) fun v3 =>
 thn (ldN h0 7 v3) fun v4 =>
 thn (padd 7 (pt p2 0 0)) fun v5 =>
 thn (ld1 h0 v5) fun v6 =>
 thn (padd 8 (pt p2 0 0)) fun v7 =>
 thn (ld1 h0 v7) fun v8 =>
 thn (padd 9 (pt p2 0 0)) fun v9 =>
 thn (ld1 h0 v9) fun v10 =>
 thn (padd 10 (pt p2 0 0)) fun v11 =>
 thn (ld1 h0 v11) fun v12 =>
 Cl Pr K 8 [v4, v6, v8, v10, v12] h0 fun v13 h13 => -- donjon/atom.New
 thn (extV 0 v13) fun v14 =>
 thn (extV 1 v13) fun v15 =>
 Q (.tuple ⟨[v14, v15]⟩) h13
) : A13_0 Q t0 h := by intro e he; cases he; exact bF L13 (by kernel_rfl) H
theorem c13 {h : AH} {Q : Value → AH → Prop} {a0 : Value} (H : A13_0 Q a0 h) : Cl Pr K 13 [a0] h Q :=
  ok_enter (by kernel_rfl) (by kernel_rfl) (Eq.mp (by kernel_rfl) (H (fun i => ([a0] : List Value).getD i undef) rfl))

/-! ### 14 donjon/replay.again: params 2, captured 0, results [tmp 4, tmp 5, tmp 6] -/
noncomputable def L14 : List (Option Nat × List Nat) := [(some 0, [0, 1]), (some 3, [0, 7, 8, 14, 15, 16]), (some 4, [0, 7, 8, 14, 15, 16]), (some 8, [0, 7]), (some 9, [0, 7, 8, 10, 11, 12, 13, 14, 15, 16]), (some 10, [0, 7]), (some 11, [7, 8, 11, 14, 15, 16])]
noncomputable def A14_0 (Q : Value → AH → Prop) (t0 t1 : Value) (h : AH) : Prop := Pt Pr K 14 none (retV Pr 14 Q) 50 [0, 1] [.code (cc 14 2), .code (cc 14 3)] [] [t0, t1] h
noncomputable def A14_1 (Q : Value → AH → Prop) (t0 t7 t8 t14 t15 t16 : Value) (h : AH) : Prop := Pt Pr K 14 none (retV Pr 14 Q) 50 [0, 7, 8, 14, 15, 16] [.code (cc 14 872), .code (cc 14 873), .inLoop (cc 14 436), .inBlock 0, .code (cc 14 55), .inScope (cc 14 6)] [] [t0, t7, t8, t14, t15, t16] h
noncomputable def A14_2 (Q : Value → AH → Prop) (t0 t7 t8 t14 t15 t16 : Value) (h : AH) : Prop := Pt Pr K 14 none (retV Pr 14 Q) 50 [0, 7, 8, 14, 15, 16] [.code (cc 14 13976), .code (cc 14 13977), .inBlock 1, .code (cc 14 3495), .inLoop (cc 14 436), .inBlock 0, .code (cc 14 55), .inScope (cc 14 6)] [] [t0, t7, t8, t14, t15, t16] h
noncomputable def A14_3 (Q : Value → AH → Prop) (t0 t7 : Value) (h : AH) : Prop := Pt Pr K 14 none (retV Pr 14 Q) 50 [0, 7] [.code (cc 14 1789156), .code (cc 14 1789157), .inBlock 2, .code (cc 14 111823), .inBlock 1, .code (cc 14 3495), .inLoop (cc 14 436), .inBlock 0, .code (cc 14 55), .inScope (cc 14 6)] [] [t0, t7] h
noncomputable def A14_4 (Q : Value → AH → Prop) (t0 t7 t8 t10 t11 t12 t13 t14 t15 t16 : Value) (h : AH) : Prop := Pt Pr K 14 none (retV Pr 14 Q) 50 [0, 7, 8, 10, 11, 12, 13, 14, 15, 16] [.code (cc 14 1789158), .code (cc 14 1789159), .inBlock 2, .code (cc 14 111823), .inBlock 1, .code (cc 14 3495), .inLoop (cc 14 436), .inBlock 0, .code (cc 14 55), .inScope (cc 14 6)] [] [t0, t7, t8, t10, t11, t12, t13, t14, t15, t16] h
noncomputable def A14_5 (Q : Value → AH → Prop) (t0 t7 : Value) (h : AH) : Prop := Pt Pr K 14 none (retV Pr 14 Q) 50 [0, 7] [.code (cc 14 7156636), .code (cc 14 7156637), .inBlock 2, .code (cc 14 111823), .inBlock 1, .code (cc 14 3495), .inLoop (cc 14 436), .inBlock 0, .code (cc 14 55), .inScope (cc 14 6)] [] [t0, t7] h
noncomputable def A14_6 (Q : Value → AH → Prop) (t7 t8 t11 t14 t15 t16 : Value) (h : AH) : Prop := Pt Pr K 14 none (retV Pr 14 Q) 50 [7, 8, 11, 14, 15, 16] [.code (cc 14 223646), .code (cc 14 223647), .inBlock 1, .code (cc 14 3495), .inLoop (cc 14 436), .inBlock 0, .code (cc 14 55), .inScope (cc 14 6)] [] [t7, t8, t11, t14, t15, t16] h
theorem b14_0 {h : AH} {Q : Value → AH → Prop} {t0 t1 : Value} (H :
 thn (lenS t1) fun v0 =>
 A14_1 Q t0 (I 0) (I 0) t1 v0 (I 0) h
) : A14_0 Q t0 t1 h := by intro e he; cases he; exact bF L14 (by kernel_rfl) H
theorem b14_1 {h : AH} {Q : Value → AH → Prop} {t0 t7 t8 t14 t15 t16 : Value} (H :
 thn (biI .lss t16 t15) fun v0 =>
 Br v0 (
 A14_2 Q t0 t7 t8 t14 t15 t16 h) (
 Q (.tuple ⟨[t0, t7, t8]⟩) h)
) : A14_1 Q t0 t7 t8 t14 t15 t16 h := by intro e he; cases he; exact bF L14 (by kernel_rfl) H
theorem b14_2 {h : AH} {Q : Value → AH → Prop} {t0 t7 t8 t14 t15 t16 : Value} (H :
 thn (idxS 7 t14 t16) fun v0 =>
 thn (ldN h 7 v0) fun v1 =>
 alc h (.cells [(I 0), (I 0), (I 0), (I 0), (I 0), (I 0), (I 0)] 44 (0, 0) true) fun p3 h2 =>
 thn (stV h2 7 (pt p3 0 0) v1) fun h4 =>
 Cl Pr K 9 [t0] h4 fun v5 h5 => -- (*donjon/atom.Machine).Copy
 thn (padd 0 (pt p3 0 0)) fun v6 =>
 thn (ld1 h5 v6) fun v7 =>
 thn (padd 6 (pt p3 0 0)) fun v8 =>
 thn (ld1 h5 v8) fun v9 =>
 thn (biI .eql v9 (I 17)) fun v10 =>
 Cl Pr K 10 [v5, v7, v10] h5 fun v11 h11 => -- (*donjon/atom.Machine).Step
 thn (extV 0 v11) fun v12 =>
 thn (extV 1 v11) fun v13 =>
 alc h11 (.cells [(I 0), (I 0), (I 0), (I 0), (I 0), (I 0), (I 0)] 44 (0, 0) true) fun p15 h14 =>
 thn (stV h14 7 (pt p15 0 0) v12) fun h16 =>
 thn (biI .eql v13 (I 20)) fun v17 =>
 Br v17 (
 A14_3 Q t0 t7 h16) (
 A14_4 Q t0 t7 t8 (pt p3 0 0) v5 (pt p15 0 0) v13 t14 t15 t16 h16)
) : A14_2 Q t0 t7 t8 t14 t15 t16 h := by intro e he; cases he; exact bF L14 (by kernel_rfl) H
theorem b14_3 {h : AH} {Q : Value → AH → Prop} {t0 t7 : Value} (H :
 Q (.tuple ⟨[t0, t7, (I 20)]⟩) h
) : A14_3 Q t0 t7 h := by intro e he; cases he; exact bF L14 (by kernel_rfl) H
theorem b14_4 {h : AH} {Q : Value → AH → Prop} {t0 t7 t8 t10 t11 t12 t13 t14 t15 t16 : Value} (H :
 thn (biI .neq t13 (I 0)) fun v0 =>
 Br v0 (
 Q (.tuple ⟨[t0, t7, (I 16)]⟩) h) (
 thn (ldN h 7 t12) fun v1 =>
 thn (ldN h 7 t10) fun v2 =>
 thn (biA [0, 0, 0, 0, 0, 0, 0] .neq v1 v2) fun v3 =>
 Br v3 (
 A14_5 Q t0 t7 h) (
 A14_6 Q t7 t8 t11 t14 t15 t16 h))
) : A14_4 Q t0 t7 t8 t10 t11 t12 t13 t14 t15 t16 h := by intro e he; cases he; exact bF L14 (by kernel_rfl) H
theorem b14_5 {h : AH} {Q : Value → AH → Prop} {t0 t7 : Value} (H :
 Q (.tuple ⟨[t0, t7, (I 16)]⟩) h
) : A14_5 Q t0 t7 h := by intro e he; cases he; exact bF L14 (by kernel_rfl) H
theorem b14_6 {h : AH} {Q : Value → AH → Prop} {t7 t8 t11 t14 t15 t16 : Value} (H :
 thn (biI .add t7 (I 1)) fun v0 =>
 thn (biI .add t16 (I 1)) fun v1 =>
 A14_1 Q t11 v0 t8 t14 t15 v1 h
) : A14_6 Q t7 t8 t11 t14 t15 t16 h := by intro e he; cases he; exact bF L14 (by kernel_rfl) H
theorem c14 {h : AH} {Q : Value → AH → Prop} {a0 a1 : Value} (H : A14_0 Q a0 a1 h) : Cl Pr K 14 [a0, a1] h Q :=
  ok_enter (by kernel_rfl) (by kernel_rfl) (Eq.mp (by kernel_rfl) (H (fun i => ([a0, a1] : List Value).getD i undef) rfl))

/-! ### 15 donjon/replay.Run$1: params 1, captured 2, results [cell 4 : 33] -/
noncomputable def L15 : List (Option Nat × List Nat) := [(some 0, [0, 1, 2])]
noncomputable def A15_0 (Q : Value → AH → Prop) (t0 t1 t2 : Value) (h : AH) : Prop := Pt Pr K 15 none (retV Pr 15 Q) 25 [0, 1, 2] [.code (cc 15 2), .code (cc 15 3)] [] [t0, t1, t2] h
theorem b15_0 {h : AH} {Q : Value → AH → Prop} {t0 t1 t2 : Value} (H :
 alc h (.cells [(I 0), (.slice none 0 0), (.slice none 0 0), (.slice none 0 0)] 33 (0, 0) true) fun p1 h0 =>
 resv h0 21 fun r3 h2 =>
 thn (padd 0 t1) fun v4 =>
 thn (padd 0 v4) fun v5 =>
 thn (ld1 h2 v5) fun v6 =>
 thn (ld1 h2 t2) fun v7 =>
 Cl Pr K 16 [v6, (.func (.func 17) #[v7] #[])] h2 fun v8 h8 => -- donjon/replay.collect[donjon/atom.Core]
 thn (padd 0 t1) fun v9 =>
 thn (padd 1 v9) fun v10 =>
 thn (ld1 h8 v10) fun v11 =>
 thn (ld1 h8 t2) fun v12 =>
 Cl Pr K 18 [v11, (.func (.func 19) #[v12] #[])] h8 fun v13 h13 => -- donjon/replay.collect[int]
 thn (padd 10 t1) fun v14 =>
 thn (ld1 h13 v14) fun v15 =>
 thn (lenS v15) fun v16 =>
 thn (ld1 h13 t2) fun v17 =>
 Cl Pr K 18 [v16, (.func (.func 20) #[v17] #[])] h13 fun v18 h18 => -- donjon/replay.collect[int]
 thn (fillL [(I 0), (.slice none 0 0), (.slice none 0 0), (.slice none 0 0)] [(0, 1, t0), (1, 1, v8), (2, 1, v13), (3, 1, v18)]) fun c19 =>
 thn (stV h18 4 (pt p1 0 0) (.agg ⟨c19⟩)) fun h20 =>
(veq t0 t0 = true) ∧ (
(veq t0 t0 = true) ∧ (
(veq t0 t0 = true) ∧ (
(thn (padd 0 t1) fun v21 =>
 veq v21 v9 = true) ∧ (
(thn (padd 1 v9) fun v22 =>
 veq v22 v10 = true) ∧ (
(thn (ld1 h2 v10) fun v23 =>
 veq v23 v11 = true) ∧ (
(thn (ld1 h2 t2) fun v24 =>
 veq v24 v12 = true) ∧ (
(veq (.func (.func 19) #[v12] #[]) (.func (.func 19) #[v12] #[]) = true) ∧ (
(thn (padd 10 t1) fun v25 =>
 veq v25 v14 = true) ∧ (
(thn (padd 10 t1) fun v26 =>
 veq v26 v14 = true) ∧ (
(thn (ld1 h2 v14) fun v27 =>
 veq v27 v15 = true) ∧ (
(thn (ld1 h8 v14) fun v28 =>
 veq v28 v15 = true) ∧ (
(thn (lenS v15) fun v29 =>
 veq v29 v16 = true) ∧ (
(thn (lenS v15) fun v30 =>
 veq v30 v16 = true) ∧ (
(thn (ld1 h2 t2) fun v31 =>
 veq v31 v17 = true) ∧ (
(thn (ld1 h8 t2) fun v32 =>
 veq v32 v17 = true) ∧ (
(veq (.func (.func 20) #[v17] #[]) (.func (.func 20) #[v17] #[]) = true) ∧ (
(veq (.func (.func 20) #[v17] #[]) (.func (.func 20) #[v17] #[]) = true) ∧ (
 thn (ldN h20 4 (pt p1 0 0)) fun v33 =>
 Q v33 h20))))))))))))))))))
) : A15_0 Q t0 t1 t2 h := by intro e he; cases he; exact bF L15 (by kernel_rfl) H
theorem c15 {h : AH} {Q : Value → AH → Prop} {a0 a1 a2 : Value} (H : A15_0 Q a0 a1 a2 h) : Cl Pr K 15 [a0, a1, a2] h Q :=
  ok_enter (by kernel_rfl) (by kernel_rfl) (Eq.mp (by kernel_rfl) (H (fun i => ([a0, a1, a2] : List Value).getD i undef) rfl))

/-! ### 16 donjon/replay.collect[donjon/atom.Core]: params 2, captured 0, results [tmp 4] -/
noncomputable def L16 : List (Option Nat × List Nat) := [(some 0, [0, 1]), (some 3, [1, 5, 9, 10]), (some 4, [1, 5, 9, 10]), (some 7, [1, 5, 7, 9, 10])]
noncomputable def A16_0 (Q : Value → AH → Prop) (t0 t1 : Value) (h : AH) : Prop := Pt Pr K 16 none (retV Pr 16 Q) 27 [0, 1] [.code (cc 16 2), .code (cc 16 3)] [] [t0, t1] h
noncomputable def A16_1 (Q : Value → AH → Prop) (t1 t5 t9 t10 : Value) (h : AH) : Prop := Pt Pr K 16 none (retV Pr 16 Q) 27 [1, 5, 9, 10] [.code (cc 16 872), .code (cc 16 873), .inLoop (cc 16 436), .inBlock 0, .code (cc 16 55), .inScope (cc 16 6)] [] [t1, t5, t9, t10] h
noncomputable def A16_2 (Q : Value → AH → Prop) (t1 t5 t9 t10 : Value) (h : AH) : Prop := Pt Pr K 16 none (retV Pr 16 Q) 27 [1, 5, 9, 10] [.code (cc 16 13976), .code (cc 16 13977), .inBlock 1, .code (cc 16 3495), .inLoop (cc 16 436), .inBlock 0, .code (cc 16 55), .inScope (cc 16 6)] [] [t1, t5, t9, t10] h
noncomputable def A16_3 (Q : Value → AH → Prop) (t1 t5 t7 t9 t10 : Value) (h : AH) : Prop := Pt Pr K 16 none (retV Pr 16 Q) 27 [1, 5, 7, 9, 10] [.code (cc 16 55911), .inBlock 1, .code (cc 16 3495), .inLoop (cc 16 436), .inBlock 0, .code (cc 16 55), .inScope (cc 16 6)] [] [t1, t5, t7, t9, t10] h
theorem b16_0 {h : AH} {Q : Value → AH → Prop} {t0 t1 : Value} (H :
 A16_1 Q t1 (.slice none 0 0) t0 (I 0) h
) : A16_0 Q t0 t1 h := by intro e he; cases he; exact bF L16 (by kernel_rfl) H
theorem b16_1 {h : AH} {Q : Value → AH → Prop} {t1 t5 t9 t10 : Value} (H :
 thn (biI .lss t10 t9) fun v0 =>
 Br v0 (
 A16_2 Q t1 t5 t9 t10 h) (
 Q t5 h)
) : A16_1 Q t1 t5 t9 t10 h := by intro e he; cases he; exact bF L16 (by kernel_rfl) H
theorem b16_2 {h : AH} {Q : Value → AH → Prop} {t1 t5 t9 t10 : Value} (H :
 OkF Pr K t1 [t10] h fun v0 h0 =>
 thn (extV 0 v0) fun v1 =>
 thn (extV 1 v0) fun v2 =>
 alc h0 (.cells [(I 0), (I 0), (I 0), (I 0), (I 0), (I 0), (.bool false)] 55 (0, 0) true) fun p4 h3 =>
 thn (stV h3 7 (pt p4 0 0) v1) fun h5 =>
 thn (biI .neq v2 (I 0)) fun v6 =>
 Br v6 (
 Q t5 h5) (
 A16_3 Q t1 t5 (pt p4 0 0) t9 t10 h5)
) : A16_2 Q t1 t5 t9 t10 h := by intro e he; cases he; exact bF L16 (by kernel_rfl) H
theorem b16_3 {h : AH} {Q : Value → AH → Prop} {t1 t5 t7 t9 t10 : Value} (H :
 thn (ldN h 7 t7) fun v0 =>
 thn (fillL [(I 0), (I 0), (I 0), (I 0), (I 0), (I 0), (.bool false)] [(0, 7, v0)]) fun l2 =>
 alcS h 7 55 l2 1 1 fun s3 h1 =>
 thn (appV 7 56 55 h1 t5 s3) fun r4 => (fun v5 h6 =>
 thn (biI .add t10 (I 1)) fun v7 =>
 A16_1 Q t1 v5 t9 v7 h6) r4.1 r4.2
) : A16_3 Q t1 t5 t7 t9 t10 h := by intro e he; cases he; exact bF L16 (by kernel_rfl) H
theorem c16 {h : AH} {Q : Value → AH → Prop} {a0 a1 : Value} (H : A16_0 Q a0 a1 h) : Cl Pr K 16 [a0, a1] h Q :=
  ok_enter (by kernel_rfl) (by kernel_rfl) (Eq.mp (by kernel_rfl) (H (fun i => ([a0, a1] : List Value).getD i undef) rfl))

/-! ### 17 (*donjon/atom.Machine).Core: params 2, captured 0, results [cell 4 : 55, tmp 5] -/
noncomputable def L17 : List (Option Nat × List Nat) := [(some 0, [0, 1]), (some 3, [0, 1, 4])]
noncomputable def A17_0 (Q : Value → AH → Prop) (t0 t1 : Value) (h : AH) : Prop := Pt Pr K 17 none (retV Pr 17 Q) 28 [0, 1] [.code (cc 17 2), .code (cc 17 3)] [] [t0, t1] h
noncomputable def A17_1 (Q : Value → AH → Prop) (t0 t1 t4 : Value) (h : AH) : Prop := Pt Pr K 17 none (retV Pr 17 Q) 28 [0, 1, 4] [.code (cc 17 28), .code (cc 17 29), .code (cc 17 15)] [] [t0, t1, t4] h
theorem b17_0 {h : AH} {Q : Value → AH → Prop} {t0 t1 : Value} (H :
 alc h (.cells [(I 0), (I 0), (I 0), (I 0), (I 0), (I 0), (.bool false)] 55 (0, 0) true) fun p1 h0 =>
 thn (biP .eql t0 (.pointer none)) fun v2 =>
 Br v2 (
 thn (fillL [(I 0), (I 0), (I 0), (I 0), (I 0), (I 0), (.bool false)] []) fun c3 =>
 thn (stV h0 7 (pt p1 0 0) (.agg ⟨c3⟩)) fun h4 =>
 thn (ldN h4 7 (pt p1 0 0)) fun v5 =>
 Q (.tuple ⟨[v5, (I 2)]⟩) h4) (
 A17_1 Q t0 t1 (pt p1 0 0) h0)
) : A17_0 Q t0 t1 h := by intro e he; cases he; exact bF L17 (by kernel_rfl) H
theorem b17_1 {h : AH} {Q : Value → AH → Prop} {t0 t1 t4 : Value} (H :
 thn (nilV t0) fun v0 =>
 thn (padd 7 v0) fun v1 =>
 thn (ld1 h v1) fun v2 =>
 thn (lenS v2) fun v3 =>
 thn (biI .sub v3 (I 1)) fun v4 =>
 thn (fillL [(I 0)] [(0, 1, t1)]) fun l6 =>
 alcS h 1 3 l6 1 1 fun s7 h5 =>
 Cl Pr K 24 [(I 0), v4, s7] h5 fun v8 h8 => -- donjon/atom.within
 thn (unV .not v8) fun v9 =>
 Br v9 (
 thn (fillL [(I 0), (I 0), (I 0), (I 0), (I 0), (I 0), (.bool false)] []) fun c10 =>
 thn (stV h8 7 t4 (.agg ⟨c10⟩)) fun h11 =>
 thn (ldN h11 7 t4) fun v12 =>
 Q (.tuple ⟨[v12, (I 10)]⟩) h11) (
 thn (nilV t0) fun v10 =>
 thn (padd 7 v10) fun v11 =>
 thn (ld1 h8 v11) fun v12 =>
 thn (idxS 8 v12 t1) fun v13 =>
 thn (padd 0 v13) fun v14 =>
 thn (ldN h8 7 v14) fun v15 =>
 thn (stV h8 7 t4 v15) fun h16 =>
 thn (ldN h16 7 t4) fun v17 =>
 Q (.tuple ⟨[v17, (I 0)]⟩) h16)
) : A17_1 Q t0 t1 t4 h := by intro e he; cases he; exact bF L17 (by kernel_rfl) H
theorem c17 {h : AH} {Q : Value → AH → Prop} {a0 a1 : Value} (H : A17_0 Q a0 a1 h) : Cl Pr K 17 [a0, a1] h Q :=
  ok_enter (by kernel_rfl) (by kernel_rfl) (Eq.mp (by kernel_rfl) (H (fun i => ([a0, a1] : List Value).getD i undef) rfl))

/-! ### 18 donjon/replay.collect[int]: params 2, captured 0, results [tmp 4] -/
noncomputable def L18 : List (Option Nat × List Nat) := [(some 0, [0, 1]), (some 3, [1, 5, 9, 10]), (some 4, [1, 5, 9, 10]), (some 7, [1, 5, 7, 9, 10])]
noncomputable def A18_0 (Q : Value → AH → Prop) (t0 t1 : Value) (h : AH) : Prop := Pt Pr K 18 none (retV Pr 18 Q) 27 [0, 1] [.code (cc 18 2), .code (cc 18 3)] [] [t0, t1] h
noncomputable def A18_1 (Q : Value → AH → Prop) (t1 t5 t9 t10 : Value) (h : AH) : Prop := Pt Pr K 18 none (retV Pr 18 Q) 27 [1, 5, 9, 10] [.code (cc 18 872), .code (cc 18 873), .inLoop (cc 18 436), .inBlock 0, .code (cc 18 55), .inScope (cc 18 6)] [] [t1, t5, t9, t10] h
noncomputable def A18_2 (Q : Value → AH → Prop) (t1 t5 t9 t10 : Value) (h : AH) : Prop := Pt Pr K 18 none (retV Pr 18 Q) 27 [1, 5, 9, 10] [.code (cc 18 13976), .code (cc 18 13977), .inBlock 1, .code (cc 18 3495), .inLoop (cc 18 436), .inBlock 0, .code (cc 18 55), .inScope (cc 18 6)] [] [t1, t5, t9, t10] h
noncomputable def A18_3 (Q : Value → AH → Prop) (t1 t5 t7 t9 t10 : Value) (h : AH) : Prop := Pt Pr K 18 none (retV Pr 18 Q) 27 [1, 5, 7, 9, 10] [.code (cc 18 55911), .inBlock 1, .code (cc 18 3495), .inLoop (cc 18 436), .inBlock 0, .code (cc 18 55), .inScope (cc 18 6)] [] [t1, t5, t7, t9, t10] h
theorem b18_0 {h : AH} {Q : Value → AH → Prop} {t0 t1 : Value} (H :
 A18_1 Q t1 (.slice none 0 0) t0 (I 0) h
) : A18_0 Q t0 t1 h := by intro e he; cases he; exact bF L18 (by kernel_rfl) H
theorem b18_1 {h : AH} {Q : Value → AH → Prop} {t1 t5 t9 t10 : Value} (H :
 thn (biI .lss t10 t9) fun v0 =>
 Br v0 (
 A18_2 Q t1 t5 t9 t10 h) (
 Q t5 h)
) : A18_1 Q t1 t5 t9 t10 h := by intro e he; cases he; exact bF L18 (by kernel_rfl) H
theorem b18_2 {h : AH} {Q : Value → AH → Prop} {t1 t5 t9 t10 : Value} (H :
 OkF Pr K t1 [t10] h fun v0 h0 =>
 thn (extV 0 v0) fun v1 =>
 thn (extV 1 v0) fun v2 =>
 thn (biI .neq v2 (I 0)) fun v3 =>
 Br v3 (
 Q t5 h0) (
 A18_3 Q t1 t5 v1 t9 t10 h0)
) : A18_2 Q t1 t5 t9 t10 h := by intro e he; cases he; exact bF L18 (by kernel_rfl) H
theorem b18_3 {h : AH} {Q : Value → AH → Prop} {t1 t5 t7 t9 t10 : Value} (H :
 thn (fillL [(I 0)] [(0, 1, t7)]) fun l1 =>
 alcS h 1 3 l1 1 1 fun s2 h0 =>
 thn (appV 1 8 3 h0 t5 s2) fun r3 => (fun v4 h5 =>
 thn (biI .add t10 (I 1)) fun v6 =>
 A18_1 Q t1 v4 t9 v6 h5) r3.1 r3.2
) : A18_3 Q t1 t5 t7 t9 t10 h := by intro e he; cases he; exact bF L18 (by kernel_rfl) H
theorem c18 {h : AH} {Q : Value → AH → Prop} {a0 a1 : Value} (H : A18_0 Q a0 a1 h) : Cl Pr K 18 [a0, a1] h Q :=
  ok_enter (by kernel_rfl) (by kernel_rfl) (Eq.mp (by kernel_rfl) (H (fun i => ([a0, a1] : List Value).getD i undef) rfl))

/-! ### 19 (*donjon/atom.Machine).Owner: params 2, captured 0, results [tmp 4, tmp 5] -/
noncomputable def L19 : List (Option Nat × List Nat) := [(some 0, [0, 1]), (some 3, [0, 1])]
noncomputable def A19_0 (Q : Value → AH → Prop) (t0 t1 : Value) (h : AH) : Prop := Pt Pr K 19 none (retV Pr 19 Q) 25 [0, 1] [.code (cc 19 2), .code (cc 19 3)] [] [t0, t1] h
noncomputable def A19_1 (Q : Value → AH → Prop) (t0 t1 : Value) (h : AH) : Prop := Pt Pr K 19 none (retV Pr 19 Q) 25 [0, 1] [.code (cc 19 28), .code (cc 19 29), .code (cc 19 15)] [] [t0, t1] h
theorem b19_0 {h : AH} {Q : Value → AH → Prop} {t0 t1 : Value} (H :
 thn (biP .eql t0 (.pointer none)) fun v0 =>
 Br v0 (
 Q (.tuple ⟨[(I 0), (I 2)]⟩) h) (
 A19_1 Q t0 t1 h)
) : A19_0 Q t0 t1 h := by intro e he; cases he; exact bF L19 (by kernel_rfl) H
theorem b19_1 {h : AH} {Q : Value → AH → Prop} {t0 t1 : Value} (H :
 thn (nilV t0) fun v0 =>
 thn (padd 8 v0) fun v1 =>
 thn (ld1 h v1) fun v2 =>
 thn (lenS v2) fun v3 =>
 thn (biI .sub v3 (I 1)) fun v4 =>
 thn (fillL [(I 0)] [(0, 1, t1)]) fun l6 =>
 alcS h 1 3 l6 1 1 fun s7 h5 =>
 Cl Pr K 24 [(I 0), v4, s7] h5 fun v8 h8 => -- donjon/atom.within
 thn (unV .not v8) fun v9 =>
 Br v9 (
 Q (.tuple ⟨[(I 0), (I 10)]⟩) h8) (
 thn (nilV t0) fun v10 =>
 thn (padd 8 v10) fun v11 =>
 thn (ld1 h8 v11) fun v12 =>
 thn (idxS 1 v12 t1) fun v13 =>
 thn (ld1 h8 v13) fun v14 =>
 Q (.tuple ⟨[v14, (I 0)]⟩) h8)
) : A19_1 Q t0 t1 h := by intro e he; cases he; exact bF L19 (by kernel_rfl) H
theorem c19 {h : AH} {Q : Value → AH → Prop} {a0 a1 : Value} (H : A19_0 Q a0 a1 h) : Cl Pr K 19 [a0, a1] h Q :=
  ok_enter (by kernel_rfl) (by kernel_rfl) (Eq.mp (by kernel_rfl) (H (fun i => ([a0, a1] : List Value).getD i undef) rfl))

/-! ### 20 (*donjon/atom.Machine).Get: params 2, captured 0, results [tmp 4, tmp 5] -/
noncomputable def L20 : List (Option Nat × List Nat) := [(some 0, [0, 1])]
noncomputable def A20_0 (Q : Value → AH → Prop) (t0 t1 : Value) (h : AH) : Prop := Pt Pr K 20 none (retV Pr 20 Q) 16 [0, 1] [.code (cc 20 2), .code (cc 20 3)] [] [t0, t1] h
theorem b20_0 {h : AH} {Q : Value → AH → Prop} {t0 t1 : Value} (H :
 thn (biP .eql t0 (.pointer none)) fun v0 =>
 Br v0 (
 Q (.tuple ⟨[(I 0), (I 2)]⟩) h) (
 thn (nilV t0) fun v1 =>
 thn (padd 9 v1) fun v2 =>
 thn (ld1 h v2) fun v3 =>
 Cl Pr K 36 [v3, t1] h fun v4 h4 => -- (*donjon/bank.Memory).Get
 thn (extV 0 v4) fun v5 =>
 thn (extV 1 v4) fun v6 =>
 Q (.tuple ⟨[v5, v6]⟩) h4)
) : A20_0 Q t0 t1 h := by intro e he; cases he; exact bF L20 (by kernel_rfl) H
theorem c20 {h : AH} {Q : Value → AH → Prop} {a0 a1 : Value} (H : A20_0 Q a0 a1 h) : Cl Pr K 20 [a0, a1] h Q :=
  ok_enter (by kernel_rfl) (by kernel_rfl) (Eq.mp (by kernel_rfl) (H (fun i => ([a0, a1] : List Value).getD i undef) rfl))

/-! ### 21 donjon/place.Check: params 1, captured 0, results [tmp 2] -/
noncomputable def L21 : List (Option Nat × List Nat) := [(some 0, [0]), (some 4, [3, 4, 22, 23]), (some 5, [3, 4, 22, 23]), (some 7, []), (some 8, [3, 4, 22, 23])]
noncomputable def A21_0 (Q : Value → AH → Prop) (t0 : Value) (h : AH) : Prop := Pt Pr K 21 none (retV Pr 21 Q) 40 [0] [.code (cc 21 2), .code (cc 21 3)] [] [t0] h
noncomputable def A21_1 (Q : Value → AH → Prop) (t3 t4 t22 t23 : Value) (h : AH) : Prop := Pt Pr K 21 none (retV Pr 21 Q) 40 [3, 4, 22, 23] [.code (cc 21 1768), .code (cc 21 1769), .inLoop (cc 21 884), .inBlock 0, .code (cc 21 111), .inScope (cc 21 6)] [] [t3, t4, t22, t23] h
noncomputable def A21_2 (Q : Value → AH → Prop) (t3 t4 t22 t23 : Value) (h : AH) : Prop := Pt Pr K 21 none (retV Pr 21 Q) 40 [3, 4, 22, 23] [.code (cc 21 28312), .code (cc 21 28313), .inBlock 1, .code (cc 21 7079), .inLoop (cc 21 884), .inBlock 0, .code (cc 21 111), .inScope (cc 21 6)] [] [t3, t4, t22, t23] h
noncomputable def A21_3 (Q : Value → AH → Prop) (h : AH) : Prop := Pt Pr K 21 none (retV Pr 21 Q) 40 [] [.code (cc 21 226508), .code (cc 21 226509), .inBlock 1, .code (cc 21 7079), .inLoop (cc 21 884), .inBlock 0, .code (cc 21 111), .inScope (cc 21 6)] [] [] h
noncomputable def A21_4 (Q : Value → AH → Prop) (t3 t4 t22 t23 : Value) (h : AH) : Prop := Pt Pr K 21 none (retV Pr 21 Q) 40 [3, 4, 22, 23] [.code (cc 21 7079), .inLoop (cc 21 884), .inBlock 0, .code (cc 21 111), .inScope (cc 21 6)] [] [t3, t4, t22, t23] h
theorem b21_0 {h : AH} {Q : Value → AH → Prop} {t0 : Value} (H :
 thn (blkOf 23 t0) fun b1 =>
 alc h b1 fun p2 h0 =>
 thn (padd 0 (pt p2 0 0)) fun v3 =>
 thn (ld1 h0 v3) fun v4 =>
 thn (padd 1 (pt p2 0 0)) fun v5 =>
 thn (ld1 h0 v5) fun v6 =>
 thn (padd 2 (pt p2 0 0)) fun v7 =>
 thn (ld1 h0 v7) fun v8 =>
 thn (padd 3 (pt p2 0 0)) fun v9 =>
 thn (ld1 h0 v9) fun v10 =>
 thn (padd 4 (pt p2 0 0)) fun v11 =>
 thn (ld1 h0 v11) fun v12 =>
 thn (padd 5 (pt p2 0 0)) fun v13 =>
 thn (ld1 h0 v13) fun v14 =>
 thn (padd 6 (pt p2 0 0)) fun v15 =>
 thn (ld1 h0 v15) fun v16 =>
 thn (fillL [(I 0), (I 0), (I 0), (I 0), (I 0), (I 0), (I 0)] [(0, 1, v4), (1, 1, v6), (2, 1, v8), (3, 1, v10), (4, 1, v12), (5, 1, v14), (6, 1, v16)]) fun c17 =>
 alc h0 (.cells [(I 0), (I 0), (I 0), (I 0), (I 0), (I 0), (I 0)] 89 (0, 0) true) fun p19 h18 =>
 thn (stV h18 7 (pt p19 0 0) (.agg ⟨c17⟩)) fun h20 =>
 thn (ldN h20 7 (.pointer (some ⟨0, 0, none⟩))) fun v21 =>
 A21_1 Q (pt p19 0 0) (I 0) v21 (I 0) h20
) : A21_0 Q t0 h := by intro e he; cases he; exact bF L21 (by kernel_rfl) H
theorem b21_1 {h : AH} {Q : Value → AH → Prop} {t3 t4 t22 t23 : Value} (H :
 thn (biI .lss t23 (I 7)) fun v0 =>
 Br v0 (
 A21_2 Q t3 t4 t22 t23 h) (
 Q t4 h)
) : A21_1 Q t3 t4 t22 t23 h := by intro e he; cases he; exact bF L21 (by kernel_rfl) H
theorem b21_2 {h : AH} {Q : Value → AH → Prop} {t3 t4 t22 t23 : Value} (H :
 thn (at1 7 1 t22 t23) fun v0 =>
 thn (idxA 7 1 t3 t23) fun v1 =>
 thn (ld1 h v1) fun v2 =>
 thn (biI .lss v2 (I 1)) fun v3 =>
 Br v3 (
 Q (I 10) h) (
 thn (idxA 7 1 t3 t23) fun v4 =>
 thn (ld1 h v4) fun v5 =>
 thn (biI .gtr v5 v0) fun v6 =>
 Br v6 (
 A21_3 Q  h) (
 A21_4 Q t3 t4 t22 t23 h))
) : A21_2 Q t3 t4 t22 t23 h := by intro e he; cases he; exact bF L21 (by kernel_rfl) H
theorem b21_3 {h : AH} {Q : Value → AH → Prop} (H :
 Q (I 10) h
) : A21_3 Q  h := by intro e _; exact bF L21 (by kernel_rfl) H
theorem b21_4 {h : AH} {Q : Value → AH → Prop} {t3 t4 t22 t23 : Value} (H :
 thn (biI .add t23 (I 1)) fun v0 =>
 A21_1 Q t3 t4 t22 v0 h
) : A21_4 Q t3 t4 t22 t23 h := by intro e he; cases he; exact bF L21 (by kernel_rfl) H
theorem c21 {h : AH} {Q : Value → AH → Prop} {a0 : Value} (H : A21_0 Q a0 h) : Cl Pr K 21 [a0] h Q :=
  ok_enter (by kernel_rfl) (by kernel_rfl) (Eq.mp (by kernel_rfl) (H (fun i => ([a0] : List Value).getD i undef) rfl))

/-! ### 22 donjon/place.Words: params 1, captured 0, results [tmp 2] -/
noncomputable def L22 : List (Option Nat × List Nat) := [(some 0, [0])]
noncomputable def A22_0 (Q : Value → AH → Prop) (t0 : Value) (h : AH) : Prop := Pt Pr K 22 none (retV Pr 22 Q) 6 [0] [.code (cc 22 2), .code (cc 22 3)] [] [t0] h
theorem b22_0 {h : AH} {Q : Value → AH → Prop} {t0 : Value} (H :
 thn (blkOf 23 t0) fun b1 =>
 alc h b1 fun p2 h0 =>
 thn (ldN h0 7 (pt p2 0 0)) fun v3 =>
 Cl Pr K 37 [v3] h0 fun v4 h4 => -- donjon/place.Lines
 thn (biI .mul v4 (I 2)) fun v5 =>
 Q v5 h4
) : A22_0 Q t0 h := by intro e he; cases he; exact bF L22 (by kernel_rfl) H
theorem c22 {h : AH} {Q : Value → AH → Prop} {a0 : Value} (H : A22_0 Q a0 h) : Cl Pr K 22 [a0] h Q :=
  ok_enter (by kernel_rfl) (by kernel_rfl) (Eq.mp (by kernel_rfl) (H (fun i => ([a0] : List Value).getD i undef) rfl))

/-! ### 23 donjon/isa.Check: params 1, captured 0, results [tmp 2, tmp 3] -/
noncomputable def L23 : List (Option Nat × List Nat) := [(some 0, [0]), (some 3, [0]), (some 4, [0, 10, 11, 12]), (some 5, [0, 10, 11, 12]), (some 9, [0, 10, 11, 12])]
noncomputable def A23_0 (Q : Value → AH → Prop) (t0 : Value) (h : AH) : Prop := Pt Pr K 23 none (retV Pr 23 Q) 27 [0] [.code (cc 23 2), .code (cc 23 3)] [] [t0] h
noncomputable def A23_1 (Q : Value → AH → Prop) (t0 : Value) (h : AH) : Prop := Pt Pr K 23 none (retV Pr 23 Q) 27 [0] [.code (cc 23 28), .code (cc 23 29), .code (cc 23 15)] [] [t0] h
noncomputable def A23_2 (Q : Value → AH → Prop) (t0 t10 t11 t12 : Value) (h : AH) : Prop := Pt Pr K 23 none (retV Pr 23 Q) 27 [0, 10, 11, 12] [.code (cc 23 232), .code (cc 23 233), .inLoop (cc 23 116), .inBlock 0, .code (cc 23 15)] [] [t0, t10, t11, t12] h
noncomputable def A23_3 (Q : Value → AH → Prop) (t0 t10 t11 t12 : Value) (h : AH) : Prop := Pt Pr K 23 none (retV Pr 23 Q) 27 [0, 10, 11, 12] [.code (cc 23 3736), .code (cc 23 3737), .inBlock 1, .code (cc 23 935), .inLoop (cc 23 116), .inBlock 0, .code (cc 23 15)] [] [t0, t10, t11, t12] h
noncomputable def A23_4 (Q : Value → AH → Prop) (t0 t10 t11 t12 : Value) (h : AH) : Prop := Pt Pr K 23 none (retV Pr 23 Q) 27 [0, 10, 11, 12] [.code (cc 23 935), .inLoop (cc 23 116), .inBlock 0, .code (cc 23 15)] [] [t0, t10, t11, t12] h
theorem b23_0 {h : AH} {Q : Value → AH → Prop} {t0 : Value} (H :
 thn (lenS t0) fun v0 =>
 thn (biI .gtr v0 (I 32)) fun v1 =>
 Br v1 (
 Q (.tuple ⟨[(I 0), (I 11)]⟩) h) (
 A23_1 Q t0 h)
) : A23_0 Q t0 h := by intro e he; cases he; exact bF L23 (by kernel_rfl) H
theorem b23_1 {h : AH} {Q : Value → AH → Prop} {t0 : Value} (H :
 thn (lenS t0) fun v0 =>
 A23_2 Q t0 t0 v0 (I 0) h
) : A23_1 Q t0 h := by intro e he; cases he; exact bF L23 (by kernel_rfl) H
theorem b23_2 {h : AH} {Q : Value → AH → Prop} {t0 t10 t11 t12 : Value} (H :
 thn (biI .lss t12 t11) fun v0 =>
 Br v0 (
 A23_3 Q t0 t10 t11 t12 h) (
 Q (.tuple ⟨[(I 0), (I 0)]⟩) h)
) : A23_2 Q t0 t10 t11 t12 h := by intro e he; cases he; exact bF L23 (by kernel_rfl) H
theorem b23_3 {h : AH} {Q : Value → AH → Prop} {t0 t10 t11 t12 : Value} (H :
 thn (idxS 4 t10 t12) fun v0 =>
 thn (ldN h 4 v0) fun v1 =>
 alc h (.cells [(I 0), (I 0), (I 0), (I 0)] 52 (0, 0) true) fun p3 h2 =>
 thn (stV h2 4 (pt p3 0 0) v1) fun h4 =>
 thn (ldN h4 4 (pt p3 0 0)) fun v5 =>
 thn (lenS t0) fun v6 =>
 Cl Pr K 38 [v5, v6] h4 fun v7 h7 => -- donjon/isa.May
 thn (biI .neq v7 (I 0)) fun v8 =>
 Br v8 (
 thn (biI .add t12 (I 1)) fun v9 =>
 Q (.tuple ⟨[v9, v7]⟩) h7) (
 A23_4 Q t0 t10 t11 t12 h7)
) : A23_3 Q t0 t10 t11 t12 h := by intro e he; cases he; exact bF L23 (by kernel_rfl) H
theorem b23_4 {h : AH} {Q : Value → AH → Prop} {t0 t10 t11 t12 : Value} (H :
 thn (biI .add t12 (I 1)) fun v0 =>
 A23_2 Q t0 t10 t11 v0 h
) : A23_4 Q t0 t10 t11 t12 h := by intro e he; cases he; exact bF L23 (by kernel_rfl) H
theorem c23 {h : AH} {Q : Value → AH → Prop} {a0 : Value} (H : A23_0 Q a0 h) : Cl Pr K 23 [a0] h Q :=
  ok_enter (by kernel_rfl) (by kernel_rfl) (Eq.mp (by kernel_rfl) (H (fun i => ([a0] : List Value).getD i undef) rfl))

/-! ### 24 donjon/atom.within: params 3, captured 0, results [tmp 6] -/
noncomputable def L24 : List (Option Nat × List Nat) := [(some 0, [0, 1, 2]), (some 2, [0, 1, 9, 10, 11]), (some 3, [0, 1, 9, 10, 11]), (some 6, [0, 1, 9, 10, 11])]
noncomputable def A24_0 (Q : Value → AH → Prop) (t0 t1 t2 : Value) (h : AH) : Prop := Pt Pr K 24 none (retV Pr 24 Q) 24 [0, 1, 2] [.code (cc 24 2), .code (cc 24 3)] [] [t0, t1, t2] h
noncomputable def A24_1 (Q : Value → AH → Prop) (t0 t1 t9 t10 t11 : Value) (h : AH) : Prop := Pt Pr K 24 none (retV Pr 24 Q) 24 [0, 1, 9, 10, 11] [.code (cc 24 104), .code (cc 24 105), .inLoop (cc 24 52), .inBlock 0, .code (cc 24 7)] [] [t0, t1, t9, t10, t11] h
noncomputable def A24_2 (Q : Value → AH → Prop) (t0 t1 t9 t10 t11 : Value) (h : AH) : Prop := Pt Pr K 24 none (retV Pr 24 Q) 24 [0, 1, 9, 10, 11] [.code (cc 24 1688), .code (cc 24 1689), .inBlock 1, .code (cc 24 423), .inLoop (cc 24 52), .inBlock 0, .code (cc 24 7)] [] [t0, t1, t9, t10, t11] h
noncomputable def A24_3 (Q : Value → AH → Prop) (t0 t1 t9 t10 t11 : Value) (h : AH) : Prop := Pt Pr K 24 none (retV Pr 24 Q) 24 [0, 1, 9, 10, 11] [.code (cc 24 423), .inLoop (cc 24 52), .inBlock 0, .code (cc 24 7)] [] [t0, t1, t9, t10, t11] h
theorem b24_0 {h : AH} {Q : Value → AH → Prop} {t0 t1 t2 : Value} (H :
 thn (lenS t2) fun v0 =>
 A24_1 Q t0 t1 t2 v0 (I 0) h
) : A24_0 Q t0 t1 t2 h := by intro e he; cases he; exact bF L24 (by kernel_rfl) H
theorem b24_1 {h : AH} {Q : Value → AH → Prop} {t0 t1 t9 t10 t11 : Value} (H :
 thn (biI .lss t11 t10) fun v0 =>
 Br v0 (
 A24_2 Q t0 t1 t9 t10 t11 h) (
 Q (.bool true) h)
) : A24_1 Q t0 t1 t9 t10 t11 h := by intro e he; cases he; exact bF L24 (by kernel_rfl) H
theorem b24_2 {h : AH} {Q : Value → AH → Prop} {t0 t1 t9 t10 t11 : Value} (H :
 thn (idxS 1 t9 t11) fun v0 =>
 thn (ld1 h v0) fun v1 =>
 thn (biI .lss v1 t0) fun v2 =>
 Br v2 (
 Q (.bool false) h) (
 thn (biI .gtr v1 t1) fun v3 =>
 Br v3 (
 Q (.bool false) h) (
 A24_3 Q t0 t1 t9 t10 t11 h))
) : A24_2 Q t0 t1 t9 t10 t11 h := by intro e he; cases he; exact bF L24 (by kernel_rfl) H
theorem b24_3 {h : AH} {Q : Value → AH → Prop} {t0 t1 t9 t10 t11 : Value} (H :
 thn (biI .add t11 (I 1)) fun v0 =>
 A24_1 Q t0 t1 t9 t10 v0 h
) : A24_3 Q t0 t1 t9 t10 t11 h := by intro e he; cases he; exact bF L24 (by kernel_rfl) H
theorem c24 {h : AH} {Q : Value → AH → Prop} {a0 a1 a2 : Value} (H : A24_0 Q a0 a1 a2 h) : Cl Pr K 24 [a0, a1, a2] h Q :=
  ok_enter (by kernel_rfl) (by kernel_rfl) (Eq.mp (by kernel_rfl) (H (fun i => ([a0, a1, a2] : List Value).getD i undef) rfl))

/-! ### 25 donjon/bank.New: params 1, captured 0, results [tmp 2, tmp 3] -/
noncomputable def L25 : List (Option Nat × List Nat) := [(some 0, [0]), (some 4, [1]), (some 6, [1, 5, 20, 21]), (some 7, [1, 5, 20, 21])]
noncomputable def A25_0 (Q : Value → AH → Prop) (t0 : Value) (h : AH) : Prop := Pt Pr K 25 none (retV Pr 25 Q) 45 [0] [.code (cc 25 2), .code (cc 25 3)] [] [t0] h
noncomputable def A25_1 (Q : Value → AH → Prop) (t1 : Value) (h : AH) : Prop := Pt Pr K 25 none (retV Pr 25 Q) 45 [1] [.code (cc 25 14), .code (cc 25 15)] [] [t1] h
noncomputable def A25_2 (Q : Value → AH → Prop) (t1 t5 t20 t21 : Value) (h : AH) : Prop := Pt Pr K 25 none (retV Pr 25 Q) 45 [1, 5, 20, 21] [.code (cc 25 488), .code (cc 25 489), .inLoop (cc 25 244), .inBlock 0, .code (cc 25 31)] [] [t1, t5, t20, t21] h
noncomputable def A25_3 (Q : Value → AH → Prop) (t1 t5 t20 t21 : Value) (h : AH) : Prop := Pt Pr K 25 none (retV Pr 25 Q) 45 [1, 5, 20, 21] [.code (cc 25 7832), .code (cc 25 7833), .inBlock 1, .code (cc 25 1959), .inLoop (cc 25 244), .inBlock 0, .code (cc 25 31)] [] [t1, t5, t20, t21] h
theorem b25_0 {h : AH} {Q : Value → AH → Prop} {t0 : Value} (H :
 thn (blkOf 23 t0) fun b1 =>
 alc h b1 fun p2 h0 =>
 thn (ldN h0 7 (pt p2 0 0)) fun v3 =>
 Cl Pr K 21 [v3] h0 fun v4 h4 => -- donjon/place.Check
 thn (biI .neq v4 (I 0)) fun v5 =>
 Br v5 (
 Q (.tuple ⟨[(.pointer none), v4]⟩) h4) (
 A25_1 Q (pt p2 0 0) h4)
) : A25_0 Q t0 h := by intro e he; cases he; exact bF L25 (by kernel_rfl) H
theorem b25_1 {h : AH} {Q : Value → AH → Prop} {t1 : Value} (H :
 resv h 7 fun r1 h0 =>
 thn (ldN h0 7 t1) fun v2 =>
 thn (padd 6 t1) fun v3 =>
 thn (ld1 h0 v3) fun v4 =>
 thn (mkS 40 v4 v4) fun n6 =>
 alcSAt h0 (r1 + 3) 3 99 (zerosA [(I 0), (I 0), (.slice none 0 0)] n6.2) n6.1 n6.2 fun s7 h5 =>
 thn (fillL [(I 0), (I 0), (I 0), (I 0), (I 0), (I 0), (I 0), (.slice none 0 0)] [(0, 7, v2), (7, 1, s7)]) fun c8 =>
 thn (blkOf 93 (.agg ⟨c8⟩)) fun b10 =>
 alcAt h5 (r1 + 5) b10 fun p11 h9 =>
 thn (ldN h9 7 t1) fun v12 =>
 Cl Pr K 37 [v12] h9 fun v13 h13 => -- donjon/place.Lines
 A25_2 Q t1 (pt p11 0 0) v13 (I 0) h13
) : A25_1 Q t1 h := by intro e he; cases he; exact bF L25 (by kernel_rfl) H
theorem b25_2 {h : AH} {Q : Value → AH → Prop} {t1 t5 t20 t21 : Value} (H :
 thn (biI .lss t21 t20) fun v0 =>
 Br v0 (
 A25_3 Q t1 t5 t20 t21 h) (
 Q (.tuple ⟨[t5, (I 0)]⟩) h)
) : A25_2 Q t1 t5 t20 t21 h := by intro e he; cases he; exact bF L25 (by kernel_rfl) H
theorem b25_3 {h : AH} {Q : Value → AH → Prop} {t1 t5 t20 t21 : Value} (H :
 resv h 10 fun r1 h0 =>
 thn (nilV t5) fun v2 =>
 thn (padd 7 v2) fun v3 =>
 thn (ld1 h0 v3) fun v4 =>
 thn (padd 6 t1) fun v5 =>
 thn (ld1 h0 v5) fun v6 =>
 thn (biI .rem t21 v6) fun v7 =>
 thn (idxS 3 v4 v7) fun v8 =>
 thn (nilV v8) fun v9 =>
 thn (padd 2 v9) fun v10 =>
 thn (ld1 h0 v10) fun v11 =>
 thn (fillL [(I 0), (I 0)] []) fun c12 =>
 thn (fillL [(I 0), (I 0)] [(0, 2, (.agg ⟨c12⟩))]) fun l14 =>
 alcS h0 2 101 l14 1 1 fun s15 h13 =>
 thn (appV 2 16 101 h13 v11 s15) fun r16 => (fun v17 h18 =>
 thn (nilV v8) fun v19 =>
 thn (padd 2 v19) fun v20 =>
 thn (stV h18 1 v20 v17) fun h21 =>
 thn (biI .add t21 (I 1)) fun v22 =>
 A25_2 Q t1 t5 t20 v22 h21) r16.1 r16.2
) : A25_3 Q t1 t5 t20 t21 h := by intro e he; cases he; exact bF L25 (by kernel_rfl) H
theorem c25 {h : AH} {Q : Value → AH → Prop} {a0 : Value} (H : A25_0 Q a0 h) : Cl Pr K 25 [a0] h Q :=
  ok_enter (by kernel_rfl) (by kernel_rfl) (Eq.mp (by kernel_rfl) (H (fun i => ([a0] : List Value).getD i undef) rfl))

/-! ### 26 (*donjon/bank.Memory).Set: params 3, captured 0, results [tmp 6] -/
noncomputable def L26 : List (Option Nat × List Nat) := [(some 0, [0, 1, 2]), (some 4, [2, 7])]
noncomputable def A26_0 (Q : Value → AH → Prop) (t0 t1 t2 : Value) (h : AH) : Prop := Pt Pr K 26 none (retV Pr 26 Q) 21 [0, 1, 2] [.code (cc 26 2), .code (cc 26 3)] [] [t0, t1, t2] h
noncomputable def A26_1 (Q : Value → AH → Prop) (t2 t7 : Value) (h : AH) : Prop := Pt Pr K 26 none (retV Pr 26 Q) 21 [2, 7] [.code (cc 26 30), .code (cc 26 31)] [] [t2, t7] h
theorem b26_0 {h : AH} {Q : Value → AH → Prop} {t0 t1 t2 : Value} (H :
 Cl Pr K 39 [t0, t1] h fun v0 h0 => -- (*donjon/bank.Memory).word
 thn (extV 0 v0) fun v1 =>
 thn (extV 1 v0) fun v2 =>
 thn (biI .neq v2 (I 0)) fun v3 =>
 Br v3 (
 Q v2 h0) (
 A26_1 Q t2 v1 h0)
) : A26_0 Q t0 t1 t2 h := by intro e he; cases he; exact bF L26 (by kernel_rfl) H
theorem b26_1 {h : AH} {Q : Value → AH → Prop} {t2 t7 : Value} (H :
 thn (nilV t7) fun v0 =>
 thn (stV h 1 v0 t2) fun h1 =>
 Q (I 0) h1
) : A26_1 Q t2 t7 h := by intro e he; cases he; exact bF L26 (by kernel_rfl) H
theorem c26 {h : AH} {Q : Value → AH → Prop} {a0 a1 a2 : Value} (H : A26_0 Q a0 a1 a2 h) : Cl Pr K 26 [a0, a1, a2] h Q :=
  ok_enter (by kernel_rfl) (by kernel_rfl) (Eq.mp (by kernel_rfl) (H (fun i => ([a0, a1, a2] : List Value).getD i undef) rfl))

/-! ### 27 slices.Clone[[]int,int]: params 1, captured 0, results [tmp 2] -/
noncomputable def L27 : List (Option Nat × List Nat) := [(some 0, [0])]
noncomputable def A27_0 (Q : Value → AH → Prop) (t0 : Value) (h : AH) : Prop := Pt Pr K 27 none (retV Pr 27 Q) 8 [0] [.code (cc 27 2), .code (cc 27 3)] [] [t0] h
theorem b27_0 {h : AH} {Q : Value → AH → Prop} {t0 : Value} (H :
 thn (biS .eql t0 (.slice none 0 0)) fun v0 =>
 Br v0 (
 Q (.slice none 0 0) h) (
 thn (fillL [] []) fun l2 =>
 alcS h 1 3 l2 0 0 fun s3 h1 =>
 thn (appV 1 8 3 h1 s3 t0) fun r4 => (fun v5 h6 =>
 Q v5 h6) r4.1 r4.2)
) : A27_0 Q t0 h := by intro e he; cases he; exact bF L27 (by kernel_rfl) H
theorem c27 {h : AH} {Q : Value → AH → Prop} {a0 : Value} (H : A27_0 Q a0 h) : Cl Pr K 27 [a0] h Q :=
  ok_enter (by kernel_rfl) (by kernel_rfl) (Eq.mp (by kernel_rfl) (H (fun i => ([a0] : List Value).getD i undef) rfl))

/-! ### 28 slices.Clone[[]donjon/isa.Instr,donjon/isa.Instr]: params 1, captured 0, results [tmp 2] -/
noncomputable def L28 : List (Option Nat × List Nat) := [(some 0, [0])]
noncomputable def A28_0 (Q : Value → AH → Prop) (t0 : Value) (h : AH) : Prop := Pt Pr K 28 none (retV Pr 28 Q) 8 [0] [.code (cc 28 2), .code (cc 28 3)] [] [t0] h
theorem b28_0 {h : AH} {Q : Value → AH → Prop} {t0 : Value} (H :
 thn (biS .eql t0 (.slice none 0 0)) fun v0 =>
 Br v0 (
 Q (.slice none 0 0) h) (
 thn (fillL [] []) fun l2 =>
 alcS h 4 52 l2 0 0 fun s3 h1 =>
 thn (appV 4 32 52 h1 s3 t0) fun r4 => (fun v5 h6 =>
 Q v5 h6) r4.1 r4.2)
) : A28_0 Q t0 h := by intro e he; cases he; exact bF L28 (by kernel_rfl) H
theorem c28 {h : AH} {Q : Value → AH → Prop} {a0 : Value} (H : A28_0 Q a0 h) : Cl Pr K 28 [a0] h Q :=
  ok_enter (by kernel_rfl) (by kernel_rfl) (Eq.mp (by kernel_rfl) (H (fun i => ([a0] : List Value).getD i undef) rfl))

/-! ### 29 (*donjon/atom.seat).turn: params 2, captured 0, results [] -/
noncomputable def L29 : List (Option Nat × List Nat) := [(some 0, [0, 1])]
noncomputable def A29_0 (Q : Value → AH → Prop) (t0 t1 : Value) (h : AH) : Prop := Pt Pr K 29 none (retV Pr 29 Q) 31 [0, 1] [.code (cc 29 2), .code (cc 29 3)] [] [t0, t1] h
theorem b29_0 {h : AH} {Q : Value → AH → Prop} {t0 t1 : Value} (H :
 thn (nilV t0) fun v0 =>
 thn (padd 0 v0) fun v1 =>
 thn (padd 4 v1) fun v2 =>
 thn (stV h 1 v2 t1) fun h3 =>
 thn (nilV t0) fun v4 =>
 thn (padd 7 v4) fun v5 =>
 thn (ld1 h3 v5) fun v6 =>
 thn (lenS v6) fun v7 =>
 thn (biI .geq t1 v7) fun v8 =>
 Br v8 (
 thn (nilV t0) fun v9 =>
 thn (padd 0 v9) fun v10 =>
 thn (padd 6 v10) fun v11 =>
 thn (stV h3 1 v11 (.bool true)) fun h12 =>
 Q (.tuple ⟨[]⟩) h12) (
 thn (nilV t0) fun v9 =>
 thn (padd 7 v9) fun v10 =>
 thn (ld1 h3 v10) fun v11 =>
 thn (idxS 4 v11 t1) fun v12 =>
 thn (padd 0 v12) fun v13 =>
 thn (ld1 h3 v13) fun v14 =>
 thn (biI .eql v14 (I 11)) fun v15 =>
 thn (nilV t0) fun v16 =>
 thn (padd 0 v16) fun v17 =>
 thn (padd 6 v17) fun v18 =>
 thn (stV h3 1 v18 v15) fun h19 =>
 Q (.tuple ⟨[]⟩) h19)
) : A29_0 Q t0 t1 h := by intro e he; cases he; exact bF L29 (by kernel_rfl) H
theorem c29 {h : AH} {Q : Value → AH → Prop} {a0 a1 : Value} (H : A29_0 Q a0 a1 h) : Cl Pr K 29 [a0, a1] h Q :=
  ok_enter (by kernel_rfl) (by kernel_rfl) (Eq.mp (by kernel_rfl) (H (fun i => ([a0, a1] : List Value).getD i undef) rfl))

/-! ### 30 slices.Clone[[]donjon/atom.seat,donjon/atom.seat]: params 1, captured 0, results [tmp 2] -/
noncomputable def L30 : List (Option Nat × List Nat) := [(some 0, [0])]
noncomputable def A30_0 (Q : Value → AH → Prop) (t0 : Value) (h : AH) : Prop := Pt Pr K 30 none (retV Pr 30 Q) 8 [0] [.code (cc 30 2), .code (cc 30 3)] [] [t0] h
theorem b30_0 {h : AH} {Q : Value → AH → Prop} {t0 : Value} (H :
 thn (biS .eql t0 (.slice none 0 0)) fun v0 =>
 Br v0 (
 Q (.slice none 0 0) h) (
 thn (fillL [] []) fun l2 =>
 alcS h 8 79 l2 0 0 fun s3 h1 =>
 thn (appV 8 80 79 h1 s3 t0) fun r4 => (fun v5 h6 =>
 Q v5 h6) r4.1 r4.2)
) : A30_0 Q t0 h := by intro e he; cases he; exact bF L30 (by kernel_rfl) H
theorem c30 {h : AH} {Q : Value → AH → Prop} {a0 : Value} (H : A30_0 Q a0 h) : Cl Pr K 30 [a0] h Q :=
  ok_enter (by kernel_rfl) (by kernel_rfl) (Eq.mp (by kernel_rfl) (H (fun i => ([a0] : List Value).getD i undef) rfl))

/-! ### 31 (*donjon/bank.Memory).Copy: params 1, captured 0, results [tmp 2] -/
noncomputable def L31 : List (Option Nat × List Nat) := [(some 0, [0]), (some 3, [0]), (some 5, [3, 22, 23]), (some 6, [3, 22, 23])]
noncomputable def A31_0 (Q : Value → AH → Prop) (t0 : Value) (h : AH) : Prop := Pt Pr K 31 none (retV Pr 31 Q) 44 [0] [.code (cc 31 2), .code (cc 31 3)] [] [t0] h
noncomputable def A31_1 (Q : Value → AH → Prop) (t0 : Value) (h : AH) : Prop := Pt Pr K 31 none (retV Pr 31 Q) 44 [0] [.code (cc 31 14), .code (cc 31 15)] [] [t0] h
noncomputable def A31_2 (Q : Value → AH → Prop) (t3 t22 t23 : Value) (h : AH) : Prop := Pt Pr K 31 none (retV Pr 31 Q) 44 [3, 22, 23] [.code (cc 31 488), .code (cc 31 489), .inLoop (cc 31 244), .inBlock 0, .code (cc 31 31)] [] [t3, t22, t23] h
noncomputable def A31_3 (Q : Value → AH → Prop) (t3 t22 t23 : Value) (h : AH) : Prop := Pt Pr K 31 none (retV Pr 31 Q) 44 [3, 22, 23] [.code (cc 31 7832), .code (cc 31 7833), .inBlock 1, .code (cc 31 1959), .inLoop (cc 31 244), .inBlock 0, .code (cc 31 31)] [] [t3, t22, t23] h
theorem b31_0 {h : AH} {Q : Value → AH → Prop} {t0 : Value} (H :
 thn (biP .eql t0 (.pointer none)) fun v0 =>
 Br v0 (
 Q (.pointer none) h) (
 A31_1 Q t0 h)
) : A31_0 Q t0 h := by intro e he; cases he; exact bF L31 (by kernel_rfl) H
theorem b31_1 {h : AH} {Q : Value → AH → Prop} {t0 : Value} (H :
 resv h 12 fun r1 h0 =>
 thn (nilV t0) fun v2 =>
 thn (padd 0 v2) fun v3 =>
 thn (ldN h0 7 v3) fun v4 =>
 thn (nilV t0) fun v5 =>
 thn (padd 7 v5) fun v6 =>
 thn (ld1 h0 v6) fun v7 =>
 Cl Pr K 40 [v7] h0 fun v8 h8 => -- slices.Clone[[]donjon/bank.bank,donjon/bank.bank]
 thn (fillL [(I 0), (I 0), (I 0), (I 0), (I 0), (I 0), (I 0), (.slice none 0 0)] [(0, 7, v4), (7, 1, v8)]) fun c9 =>
 thn (blkOf 93 (.agg ⟨c9⟩)) fun b11 =>
 alcAt h8 (r1 + 10) b11 fun p12 h10 =>
(veq t0 t0 = true) ∧ (
(thn (nilV t0) fun v13 =>
 veq v13 v2 = true) ∧ (
(thn (padd 0 v2) fun v14 =>
 veq v14 v3 = true) ∧ (
(thn (ldN h10 7 v3) fun v15 =>
 veq v15 v4 = true) ∧ (
 thn (nilV (pt p12 0 0)) fun v16 =>
 thn (padd 7 v16) fun v17 =>
 thn (ld1 h10 v17) fun v18 =>
 thn (lenS v18) fun v19 =>
 A31_2 Q (pt p12 0 0) v19 (I 0) h10))))
) : A31_1 Q t0 h := by intro e he; cases he; exact bF L31 (by kernel_rfl) H
theorem b31_2 {h : AH} {Q : Value → AH → Prop} {t3 t22 t23 : Value} (H :
 thn (biI .lss t23 t22) fun v0 =>
 Br v0 (
 A31_3 Q t3 t22 t23 h) (
 Q t3 h)
) : A31_2 Q t3 t22 t23 h := by intro e he; cases he; exact bF L31 (by kernel_rfl) H
theorem b31_3 {h : AH} {Q : Value → AH → Prop} {t3 t22 t23 : Value} (H :
 resv h 17 fun r1 h0 =>
 thn (nilV t3) fun v2 =>
 thn (padd 7 v2) fun v3 =>
 thn (ld1 h0 v3) fun v4 =>
 thn (nilV t3) fun v5 =>
 thn (padd 7 v5) fun v6 =>
 thn (ld1 h0 v6) fun v7 =>
 thn (idxS 3 v7 t23) fun v8 =>
 thn (padd 2 v8) fun v9 =>
 thn (ld1 h0 v9) fun v10 =>
 Cl Pr K 41 [v10] h0 fun v11 h11 => -- slices.Clone[[]donjon/api.Line,donjon/api.Line]
 thn (idxS 3 v4 t23) fun v12 =>
 thn (padd 2 v12) fun v13 =>
 thn (stV h11 1 v13 v11) fun h14 =>
(veq t3 t3 = true) ∧ (
(thn (nilV t3) fun v15 =>
 veq v15 v2 = true) ∧ (
(thn (padd 7 v2) fun v16 =>
 veq v16 v3 = true) ∧ (
(thn (ld1 h11 v3) fun v17 =>
 veq v17 v4 = true) ∧ (
(veq t23 t23 = true) ∧ (
 thn (biI .add t23 (I 1)) fun v18 =>
 A31_2 Q t3 t22 v18 h14)))))
) : A31_3 Q t3 t22 t23 h := by intro e he; cases he; exact bF L31 (by kernel_rfl) H
theorem c31 {h : AH} {Q : Value → AH → Prop} {a0 : Value} (H : A31_0 Q a0 h) : Cl Pr K 31 [a0] h Q :=
  ok_enter (by kernel_rfl) (by kernel_rfl) (Eq.mp (by kernel_rfl) (H (fun i => ([a0] : List Value).getD i undef) rfl))

/-! ### 32 (*donjon/atom.Machine).access: params 3, captured 0, results [tmp 6, tmp 7] -/
noncomputable def L32 : List (Option Nat × List Nat) := [(some 0, [0, 1, 2]), (some 16, [0, 1, 5, 8, 22]), (some 4, [0, 1, 5, 8, 21]), (some 6, [0, 1, 5, 8]), (some 5, [0, 1, 5, 8, 21]), (some 7, [0, 1, 5, 8]), (some 9, [0, 1, 5, 8, 9]), (some 11, [0, 1, 5, 8, 9, 11]), (some 12, [1, 5, 9, 11]), (some 13, [1, 5]), (some 14, [1, 5, 9, 11])]
noncomputable def A32_0 (Q : Value → AH → Prop) (t0 t1 t2 : Value) (h : AH) : Prop := Pt Pr K 32 none (retV Pr 32 Q) 84 [0, 1, 2] [.code (cc 32 2), .code (cc 32 3)] [] [t0, t1, t2] h
noncomputable def A32_1 (Q : Value → AH → Prop) (t0 t1 t5 t8 t22 : Value) (h : AH) : Prop := Pt Pr K 32 none (retV Pr 32 Q) 84 [0, 1, 5, 8, 22] [.code (cc 32 437), .inBlock 0, .code (cc 32 55), .inScope (cc 32 6)] [] [t0, t1, t5, t8, t22] h
noncomputable def A32_2 (Q : Value → AH → Prop) (t0 t1 t5 t8 t21 : Value) (h : AH) : Prop := Pt Pr K 32 none (retV Pr 32 Q) 84 [0, 1, 5, 8, 21] [.code (cc 32 3494), .code (cc 32 3495), .code (cc 32 437), .inBlock 0, .code (cc 32 55), .inScope (cc 32 6)] [] [t0, t1, t5, t8, t21] h
noncomputable def A32_3 (Q : Value → AH → Prop) (t0 t1 t5 t8 : Value) (h : AH) : Prop := Pt Pr K 32 none (retV Pr 32 Q) 84 [0, 1, 5, 8] [.code (cc 32 3496), .code (cc 32 3497), .code (cc 32 1749), .inBlock 0, .code (cc 32 55), .inScope (cc 32 6)] [] [t0, t1, t5, t8] h
noncomputable def A32_4 (Q : Value → AH → Prop) (t0 t1 t5 t8 t21 : Value) (h : AH) : Prop := Pt Pr K 32 none (retV Pr 32 Q) 84 [0, 1, 5, 8, 21] [.code (cc 32 6991), .code (cc 32 437), .inBlock 0, .code (cc 32 55), .inScope (cc 32 6)] [] [t0, t1, t5, t8, t21] h
noncomputable def A32_5 (Q : Value → AH → Prop) (t0 t1 t5 t8 : Value) (h : AH) : Prop := Pt Pr K 32 none (retV Pr 32 Q) 84 [0, 1, 5, 8] [.code (cc 32 3498), .code (cc 32 3499), .inBlock 0, .code (cc 32 55), .inScope (cc 32 6)] [] [t0, t1, t5, t8] h
noncomputable def A32_6 (Q : Value → AH → Prop) (t0 t1 t5 t8 t9 : Value) (h : AH) : Prop := Pt Pr K 32 none (retV Pr 32 Q) 84 [0, 1, 5, 8, 9] [.code (cc 32 13998), .code (cc 32 13999), .inBlock 0, .code (cc 32 55), .inScope (cc 32 6)] [] [t0, t1, t5, t8, t9] h
noncomputable def A32_7 (Q : Value → AH → Prop) (t0 t1 t5 t8 t9 t11 : Value) (h : AH) : Prop := Pt Pr K 32 none (retV Pr 32 Q) 84 [0, 1, 5, 8, 9, 11] [.code (cc 32 111994), .code (cc 32 27999), .inBlock 0, .code (cc 32 55), .inScope (cc 32 6)] [] [t0, t1, t5, t8, t9, t11] h
noncomputable def A32_8 (Q : Value → AH → Prop) (t1 t5 t9 t11 : Value) (h : AH) : Prop := Pt Pr K 32 none (retV Pr 32 Q) 84 [1, 5, 9, 11] [.code (cc 32 111996), .code (cc 32 111997), .code (cc 32 55999), .inBlock 0, .code (cc 32 55), .inScope (cc 32 6)] [] [t1, t5, t9, t11] h
noncomputable def A32_9 (Q : Value → AH → Prop) (t1 t5 : Value) (h : AH) : Prop := Pt Pr K 32 none (retV Pr 32 Q) 84 [1, 5] [.code (cc 32 223994), .code (cc 32 55999), .inBlock 0, .code (cc 32 55), .inScope (cc 32 6)] [] [t1, t5] h
noncomputable def A32_10 (Q : Value → AH → Prop) (t1 t5 t9 t11 : Value) (h : AH) : Prop := Pt Pr K 32 none (retV Pr 32 Q) 84 [1, 5, 9, 11] [.code (cc 32 223995), .code (cc 32 55999), .inBlock 0, .code (cc 32 55), .inScope (cc 32 6)] [] [t1, t5, t9, t11] h
theorem b32_0 {h : AH} {Q : Value → AH → Prop} {t0 t1 t2 : Value} (H :
 thn (blkOf 52 t2) fun b1 =>
 alc h b1 fun p2 h0 =>
 resv h0 9 fun r4 h3 =>
 thn (padd 2 (pt p2 0 0)) fun v5 =>
 thn (ld1 h3 v5) fun v6 =>
 thn (nilV t1) fun v7 =>
 thn (padd 0 v7) fun v8 =>
 thn (padd 0 v8) fun v9 =>
 thn (idxA 4 1 v9 v6) fun v10 =>
 thn (ld1 h3 v10) fun v11 =>
 thn (padd 0 (pt p2 0 0)) fun v12 =>
 thn (ld1 h3 v12) fun v13 =>
 thn (biI .eql v13 (I 3)) fun v14 =>
 Br v14 (
 A32_1 Q t0 t1 (pt p2 0 0) v11 v14 h3) (
 A32_2 Q t0 t1 (pt p2 0 0) v11 v13 h3)
) : A32_0 Q t0 t1 t2 h := by intro e he; cases he; exact bF L32 (by kernel_rfl) H
theorem b32_1 {h : AH} {Q : Value → AH → Prop} {t0 t1 t5 t8 t22 : Value} (H :
 Br t22 (
 A32_3 Q t0 t1 t5 t8 h) (
 Q (.tuple ⟨[(I 0), (I 19)]⟩) h)
) : A32_1 Q t0 t1 t5 t8 t22 h := by intro e he; cases he; exact bF L32 (by kernel_rfl) H
theorem b32_2 {h : AH} {Q : Value → AH → Prop} {t0 t1 t5 t8 t21 : Value} (H :
 thn (biI .eql t21 (I 4)) fun v0 =>
 Br v0 (
 A32_1 Q t0 t1 t5 t8 v0 h) (
 A32_4 Q t0 t1 t5 t8 t21 h)
) : A32_2 Q t0 t1 t5 t8 t21 h := by intro e he; cases he; exact bF L32 (by kernel_rfl) H
theorem b32_3 {h : AH} {Q : Value → AH → Prop} {t0 t1 t5 t8 : Value} (H :
 thn (nilV t1) fun v0 =>
 thn (padd 0 v0) fun v1 =>
 thn (padd 5 v1) fun v2 =>
 thn (ld1 h v2) fun v3 =>
 Cl Pr K 42 [t0, v3, t8] h fun v4 h4 => -- (*donjon/atom.Machine).may
 thn (unV .not v4) fun v5 =>
 Br v5 (
 Q (.tuple ⟨[(I 0), (I 19)]⟩) h4) (
 A32_5 Q t0 t1 t5 t8 h4)
) : A32_3 Q t0 t1 t5 t8 h := by intro e he; cases he; exact bF L32 (by kernel_rfl) H
theorem b32_4 {h : AH} {Q : Value → AH → Prop} {t0 t1 t5 t8 t21 : Value} (H :
 thn (biI .eql t21 (I 5)) fun v0 =>
 Br v0 (
 A32_3 Q t0 t1 t5 t8 h) (
 Q (.tuple ⟨[(I 0), (I 19)]⟩) h)
) : A32_4 Q t0 t1 t5 t8 t21 h := by intro e he; cases he; exact bF L32 (by kernel_rfl) H
theorem b32_5 {h : AH} {Q : Value → AH → Prop} {t0 t1 t5 t8 : Value} (H :
 thn (nilV t0) fun v0 =>
 thn (padd 9 v0) fun v1 =>
 thn (ld1 h v1) fun v2 =>
 Cl Pr K 36 [v2, t8] h fun v3 h3 => -- (*donjon/bank.Memory).Get
 thn (extV 0 v3) fun v4 =>
 thn (extV 1 v3) fun v5 =>
 thn (biI .neq v5 (I 0)) fun v6 =>
 Br v6 (
 Q (.tuple ⟨[(I 0), (I 19)]⟩) h3) (
 A32_6 Q t0 t1 t5 t8 v4 h3)
) : A32_5 Q t0 t1 t5 t8 h := by intro e he; cases he; exact bF L32 (by kernel_rfl) H
theorem b32_6 {h : AH} {Q : Value → AH → Prop} {t0 t1 t5 t8 t9 : Value} (H :
 thn (padd 0 t5) fun v0 =>
 thn (ld1 h v0) fun v1 =>
 thn (biI .neq v1 (I 3)) fun v2 =>
 Br v2 (
 A32_7 Q t0 t1 t5 t8 t9 t9 h) (
 A32_8 Q t1 t5 t9 t9 h)
) : A32_6 Q t0 t1 t5 t8 t9 h := by intro e he; cases he; exact bF L32 (by kernel_rfl) H
theorem b32_7 {h : AH} {Q : Value → AH → Prop} {t0 t1 t5 t8 t9 t11 : Value} (H :
 resv h 14 fun r1 h0 =>
 thn (nilV t0) fun v2 =>
 thn (padd 9 v2) fun v3 =>
 thn (ld1 h0 v3) fun v4 =>
 thn (padd 1 t5) fun v5 =>
 thn (ld1 h0 v5) fun v6 =>
 thn (nilV t1) fun v7 =>
 thn (padd 0 v7) fun v8 =>
 thn (padd 0 v8) fun v9 =>
 thn (idxA 4 1 v9 v6) fun v10 =>
 thn (ld1 h0 v10) fun v11 =>
 Cl Pr K 26 [v4, t8, v11] h0 fun v12 h12 => -- (*donjon/bank.Memory).Set
 thn (padd 0 t5) fun v13 =>
 thn (ld1 h12 v13) fun v14 =>
 thn (biI .eql v14 (I 4)) fun v15 =>
 Br v15 (
 A32_9 Q t1 t5 h12) (
 A32_10 Q t1 t5 t9 t11 h12)
) : A32_7 Q t0 t1 t5 t8 t9 t11 h := by intro e he; cases he; exact bF L32 (by kernel_rfl) H
theorem b32_8 {h : AH} {Q : Value → AH → Prop} {t1 t5 t9 t11 : Value} (H :
 thn (padd 0 t5) fun v0 =>
 thn (ld1 h v0) fun v1 =>
 thn (biI .eql v1 (I 4)) fun v2 =>
 Br v2 (
 A32_9 Q t1 t5 h) (
 A32_10 Q t1 t5 t9 t11 h)
) : A32_8 Q t1 t5 t9 t11 h := by intro e he; cases he; exact bF L32 (by kernel_rfl) H
theorem b32_9 {h : AH} {Q : Value → AH → Prop} {t1 t5 : Value} (H :
 resv h 9 fun r1 h0 =>
 thn (padd 1 t5) fun v2 =>
 thn (ld1 h0 v2) fun v3 =>
 thn (nilV t1) fun v4 =>
 thn (padd 0 v4) fun v5 =>
 thn (padd 0 v5) fun v6 =>
 thn (idxA 4 1 v6 v3) fun v7 =>
 thn (ld1 h0 v7) fun v8 =>
 Q (.tuple ⟨[v8, (I 0)]⟩) h0
) : A32_9 Q t1 t5 h := by intro e he; cases he; exact bF L32 (by kernel_rfl) H
theorem b32_10 {h : AH} {Q : Value → AH → Prop} {t1 t5 t9 t11 : Value} (H :
 resv h 9 fun r1 h0 =>
 thn (padd 1 t5) fun v2 =>
 thn (ld1 h0 v2) fun v3 =>
 thn (nilV t1) fun v4 =>
 thn (padd 0 v4) fun v5 =>
 thn (padd 0 v5) fun v6 =>
 thn (idxA 4 1 v6 v3) fun v7 =>
 thn (stV h0 1 v7 t9) fun h8 =>
 Q (.tuple ⟨[t11, (I 0)]⟩) h8
) : A32_10 Q t1 t5 t9 t11 h := by intro e he; cases he; exact bF L32 (by kernel_rfl) H
theorem c32 {h : AH} {Q : Value → AH → Prop} {a0 a1 a2 : Value} (H : A32_0 Q a0 a1 a2 h) : Cl Pr K 32 [a0, a1, a2] h Q :=
  ok_enter (by kernel_rfl) (by kernel_rfl) (Eq.mp (by kernel_rfl) (H (fun i => ([a0, a1, a2] : List Value).getD i undef) rfl))

/-! ### 33 (*donjon/atom.Machine).call: params 6, captured 0, results [tmp 12] -/
noncomputable def L33 : List (Option Nat × List Nat) := [(some 0, [0, 1, 2, 3, 4, 5]), (some 3, [0, 1, 2, 3, 4, 5]), (some 5, [0, 1, 2, 3, 4]), (some 8, [0, 3, 13, 14]), (some 10, [0, 3])]
noncomputable def A33_0 (Q : Value → AH → Prop) (t0 t1 t2 t3 t4 t5 : Value) (h : AH) : Prop := Pt Pr K 33 none (retV Pr 33 Q) 59 [0, 1, 2, 3, 4, 5] [.code (cc 33 2), .code (cc 33 3)] [] [t0, t1, t2, t3, t4, t5] h
noncomputable def A33_1 (Q : Value → AH → Prop) (t0 t1 t2 t3 t4 t5 : Value) (h : AH) : Prop := Pt Pr K 33 none (retV Pr 33 Q) 59 [0, 1, 2, 3, 4, 5] [.code (cc 33 28), .code (cc 33 29), .code (cc 33 15)] [] [t0, t1, t2, t3, t4, t5] h
noncomputable def A33_2 (Q : Value → AH → Prop) (t0 t1 t2 t3 t4 : Value) (h : AH) : Prop := Pt Pr K 33 none (retV Pr 33 Q) 59 [0, 1, 2, 3, 4] [.code (cc 33 30), .code (cc 33 31)] [] [t0, t1, t2, t3, t4] h
noncomputable def A33_3 (Q : Value → AH → Prop) (t0 t3 t13 t14 : Value) (h : AH) : Prop := Pt Pr K 33 none (retV Pr 33 Q) 59 [0, 3, 13, 14] [.code (cc 33 126), .code (cc 33 127)] [] [t0, t3, t13, t14] h
noncomputable def A33_4 (Q : Value → AH → Prop) (t0 t3 : Value) (h : AH) : Prop := Pt Pr K 33 none (retV Pr 33 Q) 59 [0, 3] [.code (cc 33 1018), .code (cc 33 255)] [] [t0, t3] h
theorem b33_0 {h : AH} {Q : Value → AH → Prop} {t0 t1 t2 t3 t4 t5 : Value} (H :
 thn (nilV t0) fun v0 =>
 thn (padd 8 v0) fun v1 =>
 thn (ld1 h v1) fun v2 =>
 thn (lenS v2) fun v3 =>
 thn (biI .sub v3 (I 1)) fun v4 =>
 thn (fillL [(I 0)] [(0, 1, t3)]) fun l6 =>
 alcS h 1 3 l6 1 1 fun s7 h5 =>
 Cl Pr K 24 [(I 0), v4, s7] h5 fun v8 h8 => -- donjon/atom.within
 thn (unV .not v8) fun v9 =>
 Br v9 (
 Q (I 10) h8) (
 A33_1 Q t0 t1 t2 t3 t4 t5 h8)
) : A33_0 Q t0 t1 t2 t3 t4 t5 h := by intro e he; cases he; exact bF L33 (by kernel_rfl) H
theorem b33_1 {h : AH} {Q : Value → AH → Prop} {t0 t1 t2 t3 t4 t5 : Value} (H :
 Br t5 (
 Q (I 17) h) (
 A33_2 Q t0 t1 t2 t3 t4 h)
) : A33_1 Q t0 t1 t2 t3 t4 t5 h := by intro e he; cases he; exact bF L33 (by kernel_rfl) H
theorem b33_2 {h : AH} {Q : Value → AH → Prop} {t0 t1 t2 t3 t4 : Value} (H :
 thn (nilV t0) fun v0 =>
 thn (padd 8 v0) fun v1 =>
 thn (ld1 h v1) fun v2 =>
 thn (idxS 1 v2 t3) fun v3 =>
 thn (ld1 h v3) fun v4 =>
 Cl Pr K 43 [t1, t2, v4, t4] h fun v5 h5 => -- donjon/atom.Judge
 thn (extV 0 v5) fun v6 =>
 thn (extV 1 v5) fun v7 =>
 thn (extV 2 v5) fun v8 =>
 thn (biI .neq v8 (I 0)) fun v9 =>
 Br v9 (
 Q v8 h5) (
 A33_3 Q t0 t3 v6 v7 h5)
) : A33_2 Q t0 t1 t2 t3 t4 h := by intro e he; cases he; exact bF L33 (by kernel_rfl) H
theorem b33_3 {h : AH} {Q : Value → AH → Prop} {t0 t3 t13 t14 : Value} (H :
 thn (nilV t0) fun v0 =>
 thn (padd 8 v0) fun v1 =>
 thn (ld1 h v1) fun v2 =>
 thn (idxS 1 v2 t3) fun v3 =>
 thn (stV h 1 v3 t13) fun h4 =>
 Br t14 (
 A33_4 Q t0 t3 h4) (
 Q (I 0) h4)
) : A33_3 Q t0 t3 t13 t14 h := by intro e he; cases he; exact bF L33 (by kernel_rfl) H
theorem b33_4 {h : AH} {Q : Value → AH → Prop} {t0 t3 : Value} (H :
 thn (nilV t0) fun v0 =>
 thn (padd 9 v0) fun v1 =>
 thn (ld1 h v1) fun v2 =>
 Cl Pr K 44 [v2, t3] h fun v3 h3 => -- (*donjon/bank.Memory).Scrub
 Q (I 0) h3
) : A33_4 Q t0 t3 h := by intro e he; cases he; exact bF L33 (by kernel_rfl) H
theorem c33 {h : AH} {Q : Value → AH → Prop} {a0 a1 a2 a3 a4 a5 : Value} (H : A33_0 Q a0 a1 a2 a3 a4 a5 h) : Cl Pr K 33 [a0, a1, a2, a3, a4, a5] h Q :=
  ok_enter (by kernel_rfl) (by kernel_rfl) (Eq.mp (by kernel_rfl) (H (fun i => ([a0, a1, a2, a3, a4, a5] : List Value).getD i undef) rfl))

/-! ### 34 donjon/donjonlaw18.cores: params 2, captured 0, results [tmp 4] -/
noncomputable def L34 : List (Option Nat × List Nat) := [(some 0, [0, 1]), (some 3, [0, 1]), (some 4, [0, 1, 5]), (some 6, [0, 1, 5]), (some 5, [0, 1, 5])]
noncomputable def A34_0 (Q : Value → AH → Prop) (t0 t1 : Value) (h : AH) : Prop := Pt Pr K 34 none (retV Pr 34 Q) 26 [0, 1] [.code (cc 34 2), .code (cc 34 3)] [] [t0, t1] h
noncomputable def A34_1 (Q : Value → AH → Prop) (t0 t1 : Value) (h : AH) : Prop := Pt Pr K 34 none (retV Pr 34 Q) 26 [0, 1] [.code (cc 34 28), .code (cc 34 29), .code (cc 34 15)] [] [t0, t1] h
noncomputable def A34_2 (Q : Value → AH → Prop) (t0 t1 t5 : Value) (h : AH) : Prop := Pt Pr K 34 none (retV Pr 34 Q) 26 [0, 1, 5] [.code (cc 34 464), .code (cc 34 465), .code (cc 34 233), .inLoop (cc 34 116), .inBlock 0, .code (cc 34 15)] [] [t0, t1, t5] h
noncomputable def A34_3 (Q : Value → AH → Prop) (t0 t1 t5 : Value) (h : AH) : Prop := Pt Pr K 34 none (retV Pr 34 Q) 26 [0, 1, 5] [.code (cc 34 1864), .code (cc 34 1865), .inBlock 1, .code (cc 34 467), .inLoop (cc 34 116), .inBlock 0, .code (cc 34 15)] [] [t0, t1, t5] h
noncomputable def A34_4 (Q : Value → AH → Prop) (t0 t1 t5 : Value) (h : AH) : Prop := Pt Pr K 34 none (retV Pr 34 Q) 26 [0, 1, 5] [.code (cc 34 467), .inLoop (cc 34 116), .inBlock 0, .code (cc 34 15)] [] [t0, t1, t5] h
theorem b34_0 {h : AH} {Q : Value → AH → Prop} {t0 t1 : Value} (H :
 thn (lenS t0) fun v0 =>
 thn (lenS t1) fun v1 =>
 thn (biI .neq v0 v1) fun v2 =>
 Br v2 (
 Q (.bool false) h) (
 A34_1 Q t0 t1 h)
) : A34_0 Q t0 t1 h := by intro e he; cases he; exact bF L34 (by kernel_rfl) H
theorem b34_1 {h : AH} {Q : Value → AH → Prop} {t0 t1 : Value} (H :
 A34_2 Q t0 t1 (I 0) h
) : A34_1 Q t0 t1 h := by intro e he; cases he; exact bF L34 (by kernel_rfl) H
theorem b34_2 {h : AH} {Q : Value → AH → Prop} {t0 t1 t5 : Value} (H :
 thn (lenS t0) fun v0 =>
 thn (biI .lss t5 v0) fun v1 =>
 Br v1 (
 A34_3 Q t0 t1 t5 h) (
 Q (.bool true) h)
) : A34_2 Q t0 t1 t5 h := by intro e he; cases he; exact bF L34 (by kernel_rfl) H
theorem b34_3 {h : AH} {Q : Value → AH → Prop} {t0 t1 t5 : Value} (H :
 resv h 9 fun r1 h0 =>
 thn (idxS 7 t0 t5) fun v2 =>
 thn (ldN h0 7 v2) fun v3 =>
 thn (idxS 7 t1 t5) fun v4 =>
 thn (ldN h0 7 v4) fun v5 =>
 thn (biA [0, 0, 0, 0, 0, 0, 1] .neq v3 v5) fun v6 =>
 Br v6 (
 Q (.bool false) h0) (
 A34_4 Q t0 t1 t5 h0)
) : A34_3 Q t0 t1 t5 h := by intro e he; cases he; exact bF L34 (by kernel_rfl) H
theorem b34_4 {h : AH} {Q : Value → AH → Prop} {t0 t1 t5 : Value} (H :
 thn (biI .add t5 (I 1)) fun v0 =>
 A34_2 Q t0 t1 v0 h
) : A34_4 Q t0 t1 t5 h := by intro e he; cases he; exact bF L34 (by kernel_rfl) H
theorem c34 {h : AH} {Q : Value → AH → Prop} {a0 a1 : Value} (H : A34_0 Q a0 a1 h) : Cl Pr K 34 [a0, a1] h Q :=
  ok_enter (by kernel_rfl) (by kernel_rfl) (Eq.mp (by kernel_rfl) (H (fun i => ([a0, a1] : List Value).getD i undef) rfl))

/-! ### 35 donjon/donjonlaw18.ints: params 2, captured 0, results [tmp 4] -/
noncomputable def L35 : List (Option Nat × List Nat) := [(some 0, [0, 1]), (some 3, [0, 1]), (some 4, [0, 1, 5]), (some 6, [0, 1, 5]), (some 5, [0, 1, 5])]
noncomputable def A35_0 (Q : Value → AH → Prop) (t0 t1 : Value) (h : AH) : Prop := Pt Pr K 35 none (retV Pr 35 Q) 26 [0, 1] [.code (cc 35 2), .code (cc 35 3)] [] [t0, t1] h
noncomputable def A35_1 (Q : Value → AH → Prop) (t0 t1 : Value) (h : AH) : Prop := Pt Pr K 35 none (retV Pr 35 Q) 26 [0, 1] [.code (cc 35 28), .code (cc 35 29), .code (cc 35 15)] [] [t0, t1] h
noncomputable def A35_2 (Q : Value → AH → Prop) (t0 t1 t5 : Value) (h : AH) : Prop := Pt Pr K 35 none (retV Pr 35 Q) 26 [0, 1, 5] [.code (cc 35 464), .code (cc 35 465), .code (cc 35 233), .inLoop (cc 35 116), .inBlock 0, .code (cc 35 15)] [] [t0, t1, t5] h
noncomputable def A35_3 (Q : Value → AH → Prop) (t0 t1 t5 : Value) (h : AH) : Prop := Pt Pr K 35 none (retV Pr 35 Q) 26 [0, 1, 5] [.code (cc 35 1864), .code (cc 35 1865), .inBlock 1, .code (cc 35 467), .inLoop (cc 35 116), .inBlock 0, .code (cc 35 15)] [] [t0, t1, t5] h
noncomputable def A35_4 (Q : Value → AH → Prop) (t0 t1 t5 : Value) (h : AH) : Prop := Pt Pr K 35 none (retV Pr 35 Q) 26 [0, 1, 5] [.code (cc 35 467), .inLoop (cc 35 116), .inBlock 0, .code (cc 35 15)] [] [t0, t1, t5] h
theorem b35_0 {h : AH} {Q : Value → AH → Prop} {t0 t1 : Value} (H :
 thn (lenS t0) fun v0 =>
 thn (lenS t1) fun v1 =>
 thn (biI .neq v0 v1) fun v2 =>
 Br v2 (
 Q (.bool false) h) (
 A35_1 Q t0 t1 h)
) : A35_0 Q t0 t1 h := by intro e he; cases he; exact bF L35 (by kernel_rfl) H
theorem b35_1 {h : AH} {Q : Value → AH → Prop} {t0 t1 : Value} (H :
 A35_2 Q t0 t1 (I 0) h
) : A35_1 Q t0 t1 h := by intro e he; cases he; exact bF L35 (by kernel_rfl) H
theorem b35_2 {h : AH} {Q : Value → AH → Prop} {t0 t1 t5 : Value} (H :
 thn (lenS t0) fun v0 =>
 thn (biI .lss t5 v0) fun v1 =>
 Br v1 (
 A35_3 Q t0 t1 t5 h) (
 Q (.bool true) h)
) : A35_2 Q t0 t1 t5 h := by intro e he; cases he; exact bF L35 (by kernel_rfl) H
theorem b35_3 {h : AH} {Q : Value → AH → Prop} {t0 t1 t5 : Value} (H :
 resv h 9 fun r1 h0 =>
 thn (idxS 1 t0 t5) fun v2 =>
 thn (ld1 h0 v2) fun v3 =>
 thn (idxS 1 t1 t5) fun v4 =>
 thn (ld1 h0 v4) fun v5 =>
 thn (biI .neq v3 v5) fun v6 =>
 Br v6 (
 Q (.bool false) h0) (
 A35_4 Q t0 t1 t5 h0)
) : A35_3 Q t0 t1 t5 h := by intro e he; cases he; exact bF L35 (by kernel_rfl) H
theorem b35_4 {h : AH} {Q : Value → AH → Prop} {t0 t1 t5 : Value} (H :
 thn (biI .add t5 (I 1)) fun v0 =>
 A35_2 Q t0 t1 v0 h
) : A35_4 Q t0 t1 t5 h := by intro e he; cases he; exact bF L35 (by kernel_rfl) H
theorem c35 {h : AH} {Q : Value → AH → Prop} {a0 a1 : Value} (H : A35_0 Q a0 a1 h) : Cl Pr K 35 [a0, a1] h Q :=
  ok_enter (by kernel_rfl) (by kernel_rfl) (Eq.mp (by kernel_rfl) (H (fun i => ([a0, a1] : List Value).getD i undef) rfl))

/-! ### 36 (*donjon/bank.Memory).Get: params 2, captured 0, results [tmp 4, tmp 5] -/
noncomputable def L36 : List (Option Nat × List Nat) := [(some 0, [0, 1])]
noncomputable def A36_0 (Q : Value → AH → Prop) (t0 t1 : Value) (h : AH) : Prop := Pt Pr K 36 none (retV Pr 36 Q) 20 [0, 1] [.code (cc 36 2), .code (cc 36 3)] [] [t0, t1] h
theorem b36_0 {h : AH} {Q : Value → AH → Prop} {t0 t1 : Value} (H :
 Cl Pr K 39 [t0, t1] h fun v0 h0 => -- (*donjon/bank.Memory).word
 thn (extV 0 v0) fun v1 =>
 thn (extV 1 v0) fun v2 =>
 thn (biI .neq v2 (I 0)) fun v3 =>
 Br v3 (
 Q (.tuple ⟨[(I 0), v2]⟩) h0) (
 thn (nilV v1) fun v4 =>
 thn (ld1 h0 v4) fun v5 =>
 Q (.tuple ⟨[v5, (I 0)]⟩) h0)
) : A36_0 Q t0 t1 h := by intro e he; cases he; exact bF L36 (by kernel_rfl) H
theorem c36 {h : AH} {Q : Value → AH → Prop} {a0 a1 : Value} (H : A36_0 Q a0 a1 h) : Cl Pr K 36 [a0, a1] h Q :=
  ok_enter (by kernel_rfl) (by kernel_rfl) (Eq.mp (by kernel_rfl) (H (fun i => ([a0, a1] : List Value).getD i undef) rfl))

/-! ### 37 donjon/place.Lines: params 1, captured 0, results [tmp 2] -/
noncomputable def L37 : List (Option Nat × List Nat) := [(some 0, [0])]
noncomputable def A37_0 (Q : Value → AH → Prop) (t0 : Value) (h : AH) : Prop := Pt Pr K 37 none (retV Pr 37 Q) 9 [0] [.code (cc 37 2), .code (cc 37 3)] [] [t0] h
theorem b37_0 {h : AH} {Q : Value → AH → Prop} {t0 : Value} (H :
 thn (blkOf 23 t0) fun b1 =>
 alc h b1 fun p2 h0 =>
 thn (ldN h0 7 (pt p2 0 0)) fun v3 =>
 Cl Pr K 21 [v3] h0 fun v4 h4 => -- donjon/place.Check
 thn (biI .neq v4 (I 0)) fun v5 =>
 Br v5 (
 Q (I 0) h4) (
 thn (padd 1 (pt p2 0 0)) fun v6 =>
 thn (ld1 h4 v6) fun v7 =>
 thn (biI .mul v7 (I 2)) fun v8 =>
 Q v8 h4)
) : A37_0 Q t0 h := by intro e he; cases he; exact bF L37 (by kernel_rfl) H
theorem c37 {h : AH} {Q : Value → AH → Prop} {a0 : Value} (H : A37_0 Q a0 h) : Cl Pr K 37 [a0] h Q :=
  ok_enter (by kernel_rfl) (by kernel_rfl) (Eq.mp (by kernel_rfl) (H (fun i => ([a0] : List Value).getD i undef) rfl))

/-! ### 38 donjon/isa.May: params 2, captured 0, results [tmp 4] -/
noncomputable def L38 : List (Option Nat × List Nat) := [(some 0, [0, 1, 14, 15]), (some 3, [2, 3, 4, 14, 15]), (some 5, [3, 5, 14, 15])]
noncomputable def A38_0 (ds : List Nat) (Q : Value → AH → Prop) (t0 t1 t14 t15 : Value) (h : AH) : Prop := Pt Pr K 38 none (retV Pr 38 Q) 22 [0, 1, 14, 15] [.code (cc 38 2), .code (cc 38 3)] ds [t0, t1, t14, t15] h
noncomputable def A38_1 (ds : List Nat) (Q : Value → AH → Prop) (t2 t3 t4 t14 t15 : Value) (h : AH) : Prop := Pt Pr K 38 none (retV Pr 38 Q) 22 [2, 3, 4, 14, 15] [.code (cc 38 26), .code (cc 38 27), .inScope (cc 38 6)] ds [t2, t3, t4, t14, t15] h
noncomputable def A38_2 (l : Nat) (Q : Value → AH → Prop) (t3 t5 t14 t15 : Value) (h : AH) : Prop := Pt Pr K 38 (some l) (roundOut l Q) 22 [3, 5, 14, 15] [.code (cc 38 1768), .code (cc 38 1769), .beginRound, .code (cc 38 885)] [] [t3, t5, t14, t15] h
theorem b38_0 {h : AH} {Q : Value → AH → Prop} {ds : List Nat} {t0 t1 t14 t15 : Value} (H :
 thn (blkOf 52 t0) fun b1 =>
 alc h b1 fun p2 h0 =>
 thn (blkOf 3 t1) fun b4 =>
 alc h0 b4 fun p5 h3 =>
 thn (padd 0 (pt p2 0 0)) fun v6 =>
 thn (ld1 h3 v6) fun v7 =>
 Cl Pr K 45 [v7] h3 fun v8 h8 => -- donjon/isa.is
 thn (unV .not v8) fun v9 =>
 Br v9 (
 thn (closeMarks ds h8) fun h10 =>
 Q (I 15) h10) (
 A38_1 ds Q (pt p2 0 0) (pt p5 0 0) (I 0) t14 t15 h8)
) : A38_0 ds Q t0 t1 t14 t15 h := by intro e he; cases he; exact bD L38 (by kernel_rfl) H
theorem b38_1 {h : AH} {Q : Value → AH → Prop} {ds : List Nat} {t2 t3 t4 t14 t15 : Value} (H :
 alc h (.cells [(I 0)] 34 (0, 0) true) fun p1 h0 =>
 thn (stV h0 1 (pt p1 0 0) (I 0)) fun h2 =>
 thn (ldN h2 4 t2) fun v3 =>
 Cl Pr K 46 [v3] h2 fun v4 h4 => -- donjon/isa.numbers
 alc h4 (.marks true) fun d6 h5 =>
 ∀ e12 : Nat → Value, List.map e12 [3, 5, 14, 15] = [t3, (pt p1 0 0), t14, t15] →
 alc h5 (lp Pr 38 (dcd 442) 22 e12 d6 .ready none) fun l7 h8 =>
 OkR Pr K v4 l7 h8 fun v9 h10 =>
 thn (endV h10 l7) fun r11 => (fun x14 h15 =>
 EndX x14 (
 thn (ld1 h15 (pt p1 0 0)) fun v16 =>
 thn (closeMarks (d6 :: ds) h15) fun h17 =>
 Q v16 h17) (
 thn (closeMarks (d6 :: ds) h15) fun h16 =>
 Q t4 h16) [(0, thn (ld1 h15 (pt p1 0 0)) fun v16 =>
 thn (closeMarks (d6 :: ds) h15) fun h17 =>
 Q v16 h17)]) r11.1 r11.2
) : A38_1 ds Q t2 t3 t4 t14 t15 h := by intro e he; cases he; exact bD L38 (by kernel_rfl) H
theorem b38_2 {h : AH} {Q : Value → AH → Prop} {l : Nat} {t3 t5 t14 t15 : Value} (H :
 thn (beginV h l) fun h0 =>
 thn (ld1 h0 t3) fun v1 =>
 Cl Pr K 47 [t14, t15, v1] h0 fun v2 h2 => -- donjon/isa.fits
 thn (unV .not v2) fun v3 =>
 Br v3 (
 thn (stV h2 1 t5 (I 10)) fun h4 =>
 thn (setLoop h4 l .done (some (some (.exit 0)))) fun h5 =>
 Q (.bool false) h5) (
 thn (setLoop h2 l .ready (some none)) fun h4 =>
 Q (.bool true) h4)
) : A38_2 l Q t3 t5 t14 t15 h := by intro e he; cases he; exact bR L38 (by kernel_rfl) H
theorem c38 {h : AH} {Q : Value → AH → Prop} {a0 a1 : Value} (H : A38_0 [] Q a0 a1 undef undef h) : Cl Pr K 38 [a0, a1] h Q :=
  ok_enter (by kernel_rfl) (by kernel_rfl) (Eq.mp (by kernel_rfl) (H (fun i => ([a0, a1] : List Value).getD i undef) rfl))
theorem r38_0 {h : AH} {Q : Value → AH → Prop} {l d : Nat} {e : Nat → Value} {st : LoopState} {pd : Option Code} {t3 t5 t14 t15 : Value} {a0 a1 : Value} (hg : h.get l = some (lp Pr 38 (dcd 442) 22 e d st pd)) (he : List.map e [3, 5, 14, 15] = [t3, t5, t14, t15]) (H : A38_2 l Q t3 t5 a0 a1 h) : OkF Pr K (.func (.yield l) #[] #[]) [a0, a1] h Q := by
  cases he; refine okF_round ?_; exact enter_lp (lv := [3, 5, 14, 15]) (vs := [e 3, e 5, a0, a1]) hg (by kernel_rfl) (by kernel_rfl) (Eq.mp (by kernel_rfl) H)

/-! ### 39 (*donjon/bank.Memory).word: params 2, captured 0, results [tmp 4, tmp 5] -/
noncomputable def L39 : List (Option Nat × List Nat) := [(some 0, [0, 1]), (some 3, [0, 1]), (some 6, [0, 6, 7])]
noncomputable def A39_0 (Q : Value → AH → Prop) (t0 t1 : Value) (h : AH) : Prop := Pt Pr K 39 none (retV Pr 39 Q) 44 [0, 1] [.code (cc 39 2), .code (cc 39 3)] [] [t0, t1] h
noncomputable def A39_1 (Q : Value → AH → Prop) (t0 t1 : Value) (h : AH) : Prop := Pt Pr K 39 none (retV Pr 39 Q) 44 [0, 1] [.code (cc 39 14), .code (cc 39 15)] [] [t0, t1] h
noncomputable def A39_2 (Q : Value → AH → Prop) (t0 t6 t7 : Value) (h : AH) : Prop := Pt Pr K 39 none (retV Pr 39 Q) 44 [0, 6, 7] [.code (cc 39 62), .code (cc 39 63)] [] [t0, t6, t7] h
theorem b39_0 {h : AH} {Q : Value → AH → Prop} {t0 t1 : Value} (H :
 thn (biP .eql t0 (.pointer none)) fun v0 =>
 Br v0 (
 Q (.tuple ⟨[(.pointer none), (I 2)]⟩) h) (
 A39_1 Q t0 t1 h)
) : A39_0 Q t0 t1 h := by intro e he; cases he; exact bF L39 (by kernel_rfl) H
theorem b39_1 {h : AH} {Q : Value → AH → Prop} {t0 t1 : Value} (H :
 thn (nilV t0) fun v0 =>
 thn (padd 0 v0) fun v1 =>
 thn (ldN h 7 v1) fun v2 =>
 Cl Pr K 48 [v2, t1] h fun v3 h3 => -- donjon/place.Line
 thn (extV 0 v3) fun v4 =>
 thn (extV 1 v3) fun v5 =>
 thn (extV 2 v3) fun v6 =>
 thn (biI .neq v6 (I 0)) fun v7 =>
 Br v7 (
 Q (.tuple ⟨[(.pointer none), v6]⟩) h3) (
 A39_2 Q t0 v4 v5 h3)
) : A39_1 Q t0 t1 h := by intro e he; cases he; exact bF L39 (by kernel_rfl) H
theorem b39_2 {h : AH} {Q : Value → AH → Prop} {t0 t6 t7 : Value} (H :
 Cl Pr K 49 [t0, t6] h fun v0 h0 => -- (*donjon/bank.Memory).find
 thn (extV 0 v0) fun v1 =>
 thn (extV 1 v0) fun v2 =>
 thn (extV 2 v0) fun v3 =>
 thn (biI .neq v3 (I 0)) fun v4 =>
 Br v4 (
 Q (.tuple ⟨[(.pointer none), v3]⟩) h0) (
 thn (nilV v1) fun v5 =>
 thn (padd 2 v5) fun v6 =>
 thn (ld1 h0 v6) fun v7 =>
 thn (idxS 2 v7 v2) fun v8 =>
 thn (idxA 2 1 v8 t7) fun v9 =>
 Q (.tuple ⟨[v9, (I 0)]⟩) h0)
) : A39_2 Q t0 t6 t7 h := by intro e he; cases he; exact bF L39 (by kernel_rfl) H
theorem c39 {h : AH} {Q : Value → AH → Prop} {a0 a1 : Value} (H : A39_0 Q a0 a1 h) : Cl Pr K 39 [a0, a1] h Q :=
  ok_enter (by kernel_rfl) (by kernel_rfl) (Eq.mp (by kernel_rfl) (H (fun i => ([a0, a1] : List Value).getD i undef) rfl))

/-! ### 40 slices.Clone[[]donjon/bank.bank,donjon/bank.bank]: params 1, captured 0, results [tmp 2] -/
noncomputable def L40 : List (Option Nat × List Nat) := [(some 0, [0])]
noncomputable def A40_0 (Q : Value → AH → Prop) (t0 : Value) (h : AH) : Prop := Pt Pr K 40 none (retV Pr 40 Q) 8 [0] [.code (cc 40 2), .code (cc 40 3)] [] [t0] h
theorem b40_0 {h : AH} {Q : Value → AH → Prop} {t0 : Value} (H :
 thn (biS .eql t0 (.slice none 0 0)) fun v0 =>
 Br v0 (
 Q (.slice none 0 0) h) (
 thn (fillL [] []) fun l2 =>
 alcS h 3 99 l2 0 0 fun s3 h1 =>
 thn (appV 3 40 99 h1 s3 t0) fun r4 => (fun v5 h6 =>
 Q v5 h6) r4.1 r4.2)
) : A40_0 Q t0 h := by intro e he; cases he; exact bF L40 (by kernel_rfl) H
theorem c40 {h : AH} {Q : Value → AH → Prop} {a0 : Value} (H : A40_0 Q a0 h) : Cl Pr K 40 [a0] h Q :=
  ok_enter (by kernel_rfl) (by kernel_rfl) (Eq.mp (by kernel_rfl) (H (fun i => ([a0] : List Value).getD i undef) rfl))

/-! ### 41 slices.Clone[[]donjon/api.Line,donjon/api.Line]: params 1, captured 0, results [tmp 2] -/
noncomputable def L41 : List (Option Nat × List Nat) := [(some 0, [0])]
noncomputable def A41_0 (Q : Value → AH → Prop) (t0 : Value) (h : AH) : Prop := Pt Pr K 41 none (retV Pr 41 Q) 8 [0] [.code (cc 41 2), .code (cc 41 3)] [] [t0] h
theorem b41_0 {h : AH} {Q : Value → AH → Prop} {t0 : Value} (H :
 thn (biS .eql t0 (.slice none 0 0)) fun v0 =>
 Br v0 (
 Q (.slice none 0 0) h) (
 thn (fillL [] []) fun l2 =>
 alcS h 2 101 l2 0 0 fun s3 h1 =>
 thn (appV 2 16 101 h1 s3 t0) fun r4 => (fun v5 h6 =>
 Q v5 h6) r4.1 r4.2)
) : A41_0 Q t0 h := by intro e he; cases he; exact bF L41 (by kernel_rfl) H
theorem c41 {h : AH} {Q : Value → AH → Prop} {a0 : Value} (H : A41_0 Q a0 h) : Cl Pr K 41 [a0] h Q :=
  ok_enter (by kernel_rfl) (by kernel_rfl) (Eq.mp (by kernel_rfl) (H (fun i => ([a0] : List Value).getD i undef) rfl))

/-! ### 42 (*donjon/atom.Machine).may: params 3, captured 0, results [tmp 6] -/
noncomputable def L42 : List (Option Nat × List Nat) := [(some 0, [0, 1, 2]), (some 4, [0, 1, 7])]
noncomputable def A42_0 (Q : Value → AH → Prop) (t0 t1 t2 : Value) (h : AH) : Prop := Pt Pr K 42 none (retV Pr 42 Q) 45 [0, 1, 2] [.code (cc 42 2), .code (cc 42 3)] [] [t0, t1, t2] h
noncomputable def A42_1 (Q : Value → AH → Prop) (t0 t1 t7 : Value) (h : AH) : Prop := Pt Pr K 42 none (retV Pr 42 Q) 45 [0, 1, 7] [.code (cc 42 30), .code (cc 42 31)] [] [t0, t1, t7] h
theorem b42_0 {h : AH} {Q : Value → AH → Prop} {t0 t1 t2 : Value} (H :
 thn (nilV t0) fun v0 =>
 thn (padd 0 v0) fun v1 =>
 thn (ldN h 7 v1) fun v2 =>
 Cl Pr K 48 [v2, t2] h fun v3 h3 => -- donjon/place.Line
 thn (extV 0 v3) fun v4 =>
 thn (extV 1 v3) fun v5 =>
 thn (extV 2 v3) fun v6 =>
 thn (biI .neq v6 (I 0)) fun v7 =>
 Br v7 (
 Q (.bool false) h3) (
 A42_1 Q t0 t1 v4 h3)
) : A42_0 Q t0 t1 t2 h := by intro e he; cases he; exact bF L42 (by kernel_rfl) H
theorem b42_1 {h : AH} {Q : Value → AH → Prop} {t0 t1 t7 : Value} (H :
 thn (nilV t0) fun v0 =>
 thn (padd 0 v0) fun v1 =>
 thn (ldN h 7 v1) fun v2 =>
 Cl Pr K 50 [v2, t7] h fun v3 h3 => -- donjon/place.Granule
 thn (extV 0 v3) fun v4 =>
 thn (extV 1 v3) fun v5 =>
 thn (biI .eql v5 (I 0)) fun v6 =>
 Br v6 (
 thn (nilV t0) fun v7 =>
 thn (padd 8 v7) fun v8 =>
 thn (ld1 h3 v8) fun v9 =>
 thn (idxS 1 v9 v4) fun v10 =>
 thn (ld1 h3 v10) fun v11 =>
 Cl Pr K 51 [t1, v11] h3 fun v12 h12 => -- donjon/table.May
 Q v12 h12) (
 Q (.bool false) h3)
) : A42_1 Q t0 t1 t7 h := by intro e he; cases he; exact bF L42 (by kernel_rfl) H
theorem c42 {h : AH} {Q : Value → AH → Prop} {a0 a1 a2 : Value} (H : A42_0 Q a0 a1 a2 h) : Cl Pr K 42 [a0, a1, a2] h Q :=
  ok_enter (by kernel_rfl) (by kernel_rfl) (Eq.mp (by kernel_rfl) (H (fun i => ([a0, a1, a2] : List Value).getD i undef) rfl))

/-! ### 43 donjon/atom.Judge: params 4, captured 0, results [tmp 8, tmp 9, tmp 10] -/
noncomputable def L43 : List (Option Nat × List Nat) := [(some 0, [0, 1, 2, 3]), (some 3, [0, 1, 2, 3]), (some 5, [1, 2, 3]), (some 12, [1, 2, 3, 21]), (some 7, [2, 3]), (some 13, [1, 2]), (some 18, [1, 2, 3, 21]), (some 9, [3]), (some 15, [1, 2]), (some 19, [1, 2, 3]), (some 24, [1, 2, 21]), (some 21, [2, 3]), (some 25, [1, 2]), (some 27, [1, 2])]
noncomputable def A43_0 (Q : Value → AH → Prop) (t0 t1 t2 t3 : Value) (h : AH) : Prop := Pt Pr K 43 none (retV Pr 43 Q) 79 [0, 1, 2, 3] [.code (cc 43 2), .code (cc 43 3)] [] [t0, t1, t2, t3] h
noncomputable def A43_1 (Q : Value → AH → Prop) (t0 t1 t2 t3 : Value) (h : AH) : Prop := Pt Pr K 43 none (retV Pr 43 Q) 79 [0, 1, 2, 3] [.code (cc 43 28), .code (cc 43 29), .code (cc 43 15)] [] [t0, t1, t2, t3] h
noncomputable def A43_2 (Q : Value → AH → Prop) (t1 t2 t3 : Value) (h : AH) : Prop := Pt Pr K 43 none (retV Pr 43 Q) 79 [1, 2, 3] [.code (cc 43 1872), .code (cc 43 1873), .inBlock 1, .code (cc 43 469), .inBlock 0, .code (cc 43 15)] [] [t1, t2, t3] h
noncomputable def A43_3 (Q : Value → AH → Prop) (t1 t2 t3 t21 : Value) (h : AH) : Prop := Pt Pr K 43 none (retV Pr 43 Q) 79 [1, 2, 3, 21] [.code (cc 43 470), .code (cc 43 471), .inBlock 0, .code (cc 43 15)] [] [t1, t2, t3, t21] h
noncomputable def A43_4 (Q : Value → AH → Prop) (t2 t3 : Value) (h : AH) : Prop := Pt Pr K 43 none (retV Pr 43 Q) 79 [2, 3] [.code (cc 43 7494), .code (cc 43 7495), .inBlock 1, .code (cc 43 469), .inBlock 0, .code (cc 43 15)] [] [t2, t3] h
noncomputable def A43_5 (Q : Value → AH → Prop) (t1 t2 : Value) (h : AH) : Prop := Pt Pr K 43 none (retV Pr 43 Q) 79 [1, 2] [.code (cc 43 7536), .code (cc 43 7537), .inBlock 2, .code (cc 43 1885), .inBlock 0, .code (cc 43 15)] [] [t1, t2] h
noncomputable def A43_6 (Q : Value → AH → Prop) (t1 t2 t3 t21 : Value) (h : AH) : Prop := Pt Pr K 43 none (retV Pr 43 Q) 79 [1, 2, 3, 21] [.code (cc 43 1886), .code (cc 43 1887), .inBlock 0, .code (cc 43 15)] [] [t1, t2, t3, t21] h
noncomputable def A43_7 (Q : Value → AH → Prop) (t3 : Value) (h : AH) : Prop := Pt Pr K 43 none (retV Pr 43 Q) 79 [3] [.code (cc 43 29982), .code (cc 43 29983), .inBlock 1, .code (cc 43 469), .inBlock 0, .code (cc 43 15)] [] [t3] h
noncomputable def A43_8 (Q : Value → AH → Prop) (t1 t2 : Value) (h : AH) : Prop := Pt Pr K 43 none (retV Pr 43 Q) 79 [1, 2] [.code (cc 43 30150), .code (cc 43 30151), .inBlock 2, .code (cc 43 1885), .inBlock 0, .code (cc 43 15)] [] [t1, t2] h
noncomputable def A43_9 (Q : Value → AH → Prop) (t1 t2 t3 : Value) (h : AH) : Prop := Pt Pr K 43 none (retV Pr 43 Q) 79 [1, 2, 3] [.code (cc 43 30192), .code (cc 43 30193), .inBlock 3, .code (cc 43 7549), .inBlock 0, .code (cc 43 15)] [] [t1, t2, t3] h
noncomputable def A43_10 (Q : Value → AH → Prop) (t1 t2 t21 : Value) (h : AH) : Prop := Pt Pr K 43 none (retV Pr 43 Q) 79 [1, 2, 21] [.code (cc 43 7550), .code (cc 43 7551), .inBlock 0, .code (cc 43 15)] [] [t1, t2, t21] h
noncomputable def A43_11 (Q : Value → AH → Prop) (t2 t3 : Value) (h : AH) : Prop := Pt Pr K 43 none (retV Pr 43 Q) 79 [2, 3] [.code (cc 43 120774), .code (cc 43 120775), .inBlock 3, .code (cc 43 7549), .inBlock 0, .code (cc 43 15)] [] [t2, t3] h
noncomputable def A43_12 (Q : Value → AH → Prop) (t1 t2 : Value) (h : AH) : Prop := Pt Pr K 43 none (retV Pr 43 Q) 79 [1, 2] [.code (cc 43 120816), .code (cc 43 120817), .inBlock 4, .code (cc 43 30205), .inBlock 0, .code (cc 43 15)] [] [t1, t2] h
noncomputable def A43_13 (Q : Value → AH → Prop) (t1 t2 : Value) (h : AH) : Prop := Pt Pr K 43 none (retV Pr 43 Q) 79 [1, 2] [.code (cc 43 483270), .code (cc 43 483271), .inBlock 4, .code (cc 43 30205), .inBlock 0, .code (cc 43 15)] [] [t1, t2] h
theorem b43_0 {h : AH} {Q : Value → AH → Prop} {t0 t1 t2 t3 : Value} (H :
 thn (fillL [(I 0)] [(0, 1, t1)]) fun l1 =>
 alcS h 1 3 l1 1 1 fun s2 h0 =>
 Cl Pr K 24 [(I 0), (I 3), s2] h0 fun v3 h3 => -- donjon/atom.within
 thn (unV .not v3) fun v4 =>
 Br v4 (
 Q (.tuple ⟨[(I 0), (.bool false), (I 10)]⟩) h3) (
 thn (fillL [(I 0)] [(0, 1, t2)]) fun l6 =>
 alcS h3 1 3 l6 1 1 fun s7 h5 =>
 Cl Pr K 24 [(I 0), (I 4), s7] h5 fun v8 h8 => -- donjon/atom.within
 thn (unV .not v8) fun v9 =>
 Br v9 (
 Q (.tuple ⟨[(I 0), (.bool false), (I 10)]⟩) h8) (
 A43_1 Q t0 t1 t2 t3 h8))
) : A43_0 Q t0 t1 t2 t3 h := by intro e he; cases he; exact bF L43 (by kernel_rfl) H
theorem b43_1 {h : AH} {Q : Value → AH → Prop} {t0 t1 t2 t3 : Value} (H :
 thn (biI .eql t0 (I 1)) fun v0 =>
 Br v0 (
 A43_2 Q t1 t2 t3 h) (
 A43_3 Q t1 t2 t3 t0 h)
) : A43_1 Q t0 t1 t2 t3 h := by intro e he; cases he; exact bF L43 (by kernel_rfl) H
theorem b43_2 {h : AH} {Q : Value → AH → Prop} {t1 t2 t3 : Value} (H :
 thn (biI .neq t1 (I 0)) fun v0 =>
 Br v0 (
 Q (.tuple ⟨[(I 0), (.bool false), (I 18)]⟩) h) (
 A43_4 Q t2 t3 h)
) : A43_2 Q t1 t2 t3 h := by intro e he; cases he; exact bF L43 (by kernel_rfl) H
theorem b43_3 {h : AH} {Q : Value → AH → Prop} {t1 t2 t3 t21 : Value} (H :
 thn (biI .eql t21 (I 2)) fun v0 =>
 Br v0 (
 A43_5 Q t1 t2 h) (
 A43_6 Q t1 t2 t3 t21 h)
) : A43_3 Q t1 t2 t3 t21 h := by intro e he; cases he; exact bF L43 (by kernel_rfl) H
theorem b43_4 {h : AH} {Q : Value → AH → Prop} {t2 t3 : Value} (H :
 thn (biI .neq t2 (I 0)) fun v0 =>
 Br v0 (
 Q (.tuple ⟨[(I 0), (.bool false), (I 16)]⟩) h) (
 A43_7 Q t3 h)
) : A43_4 Q t2 t3 h := by intro e he; cases he; exact bF L43 (by kernel_rfl) H
theorem b43_5 {h : AH} {Q : Value → AH → Prop} {t1 t2 : Value} (H :
 thn (biI .eql t2 (I 0)) fun v0 =>
 Br v0 (
 Q (.tuple ⟨[(I 0), (.bool false), (I 16)]⟩) h) (
 A43_8 Q t1 t2 h)
) : A43_5 Q t1 t2 h := by intro e he; cases he; exact bF L43 (by kernel_rfl) H
theorem b43_6 {h : AH} {Q : Value → AH → Prop} {t1 t2 t3 t21 : Value} (H :
 thn (biI .eql t21 (I 3)) fun v0 =>
 Br v0 (
 A43_9 Q t1 t2 t3 h) (
 A43_10 Q t1 t2 t21 h)
) : A43_6 Q t1 t2 t3 t21 h := by intro e he; cases he; exact bF L43 (by kernel_rfl) H
theorem b43_7 {h : AH} {Q : Value → AH → Prop} {t3 : Value} (H :
 thn (fillL [(I 0)] [(0, 1, t3)]) fun l1 =>
 alcS h 1 3 l1 1 1 fun s2 h0 =>
 Cl Pr K 24 [(I 1), (I 3), s2] h0 fun v3 h3 => -- donjon/atom.within
 thn (unV .not v3) fun v4 =>
 Br v4 (
 Q (.tuple ⟨[(I 0), (.bool false), (I 1)]⟩) h3) (
 Q (.tuple ⟨[t3, (.bool true), (I 0)]⟩) h3)
) : A43_7 Q t3 h := by intro e he; cases he; exact bF L43 (by kernel_rfl) H
theorem b43_8 {h : AH} {Q : Value → AH → Prop} {t1 t2 : Value} (H :
 thn (biI .neq t1 (I 0)) fun v0 =>
 Br v0 (
 thn (biI .neq t1 t2) fun v1 =>
 Br v1 (
 Q (.tuple ⟨[(I 0), (.bool false), (I 18)]⟩) h) (
 Q (.tuple ⟨[(I 0), (.bool true), (I 0)]⟩) h)) (
 Q (.tuple ⟨[(I 0), (.bool true), (I 0)]⟩) h)
) : A43_8 Q t1 t2 h := by intro e he; cases he; exact bF L43 (by kernel_rfl) H
theorem b43_9 {h : AH} {Q : Value → AH → Prop} {t1 t2 t3 : Value} (H :
 thn (biI .eql t1 (I 0)) fun v0 =>
 Br v0 (
 Q (.tuple ⟨[(I 0), (.bool false), (I 18)]⟩) h) (
 thn (biI .neq t1 t2) fun v1 =>
 Br v1 (
 Q (.tuple ⟨[(I 0), (.bool false), (I 18)]⟩) h) (
 A43_11 Q t2 t3 h))
) : A43_9 Q t1 t2 t3 h := by intro e he; cases he; exact bF L43 (by kernel_rfl) H
theorem b43_10 {h : AH} {Q : Value → AH → Prop} {t1 t2 t21 : Value} (H :
 thn (biI .eql t21 (I 4)) fun v0 =>
 Br v0 (
 A43_12 Q t1 t2 h) (
 Q (.tuple ⟨[(I 0), (.bool false), (I 15)]⟩) h)
) : A43_10 Q t1 t2 t21 h := by intro e he; cases he; exact bF L43 (by kernel_rfl) H
theorem b43_11 {h : AH} {Q : Value → AH → Prop} {t2 t3 : Value} (H :
 thn (fillL [(I 0)] [(0, 1, t3)]) fun l1 =>
 alcS h 1 3 l1 1 1 fun s2 h0 =>
 Cl Pr K 24 [(I 1), (I 3), s2] h0 fun v3 h3 => -- donjon/atom.within
 thn (unV .not v3) fun v4 =>
 Br v4 (
 Q (.tuple ⟨[(I 0), (.bool false), (I 1)]⟩) h3) (
 thn (biI .eql t3 t2) fun v5 =>
 Br v5 (
 Q (.tuple ⟨[(I 0), (.bool false), (I 1)]⟩) h3) (
 Q (.tuple ⟨[t3, (.bool true), (I 0)]⟩) h3))
) : A43_11 Q t2 t3 h := by intro e he; cases he; exact bF L43 (by kernel_rfl) H
theorem b43_12 {h : AH} {Q : Value → AH → Prop} {t1 t2 : Value} (H :
 thn (biI .eql t2 (I 4)) fun v0 =>
 Br v0 (
 Q (.tuple ⟨[(I 0), (.bool false), (I 16)]⟩) h) (
 A43_13 Q t1 t2 h)
) : A43_12 Q t1 t2 h := by intro e he; cases he; exact bF L43 (by kernel_rfl) H
theorem b43_13 {h : AH} {Q : Value → AH → Prop} {t1 t2 : Value} (H :
 thn (biI .neq t1 t2) fun v0 =>
 Br v0 (
 Q (.tuple ⟨[(I 0), (.bool false), (I 18)]⟩) h) (
 Q (.tuple ⟨[(I 4), (.bool false), (I 0)]⟩) h)
) : A43_13 Q t1 t2 h := by intro e he; cases he; exact bF L43 (by kernel_rfl) H
theorem c43 {h : AH} {Q : Value → AH → Prop} {a0 a1 a2 a3 : Value} (H : A43_0 Q a0 a1 a2 a3 h) : Cl Pr K 43 [a0, a1, a2, a3] h Q :=
  ok_enter (by kernel_rfl) (by kernel_rfl) (Eq.mp (by kernel_rfl) (H (fun i => ([a0, a1, a2, a3] : List Value).getD i undef) rfl))

/-! ### 44 (*donjon/bank.Memory).Scrub: params 2, captured 0, results [cell 4 : 34] -/
noncomputable def L44 : List (Option Nat × List Nat) := [(some 0, [0, 1, 26]), (some 3, [1, 2, 4, 26]), (some 5, [1, 2, 4, 26]), (some 6, [2, 4, 26])]
noncomputable def A44_0 (ds : List Nat) (Q : Value → AH → Prop) (t0 t1 t26 : Value) (h : AH) : Prop := Pt Pr K 44 none (retV Pr 44 Q) 34 [0, 1, 26] [.code (cc 44 2), .code (cc 44 3)] ds [t0, t1, t26] h
noncomputable def A44_1 (ds : List Nat) (Q : Value → AH → Prop) (t1 t2 t4 t26 : Value) (h : AH) : Prop := Pt Pr K 44 none (retV Pr 44 Q) 34 [1, 2, 4, 26] [.code (cc 44 28), .code (cc 44 29), .code (cc 44 15)] ds [t1, t2, t4, t26] h
noncomputable def A44_2 (ds : List Nat) (Q : Value → AH → Prop) (t1 t2 t4 t26 : Value) (h : AH) : Prop := Pt Pr K 44 none (retV Pr 44 Q) 34 [1, 2, 4, 26] [.code (cc 44 60), .code (cc 44 61), .code (cc 44 31)] ds [t1, t2, t4, t26] h
noncomputable def A44_3 (l : Nat) (Q : Value → AH → Prop) (t2 t4 t26 : Value) (h : AH) : Prop := Pt Pr K 44 (some l) (roundOut l Q) 34 [2, 4, 26] [.code (cc 44 244), .beginRound, .code (cc 44 245)] [] [t2, t4, t26] h
theorem b44_0 {h : AH} {Q : Value → AH → Prop} {ds : List Nat} {t0 t1 t26 : Value} (H :
 thn (blkOf 69 t0) fun b1 =>
 alc h b1 fun p2 h0 =>
 alc h0 (.cells [(I 0)] 34 (0, 0) true) fun p4 h3 =>
 thn (ld1 h3 (pt p2 0 0)) fun v5 =>
 thn (biP .eql v5 (.pointer none)) fun v6 =>
 Br v6 (
 thn (stV h3 1 (pt p4 0 0) (I 2)) fun h7 =>
 thn (closeMarks ds h7) fun h8 =>
 thn (ld1 h8 (pt p4 0 0)) fun v9 =>
 Q v9 h8) (
 A44_1 ds Q t1 (pt p2 0 0) (pt p4 0 0) t26 h3)
) : A44_0 ds Q t0 t1 t26 h := by intro e he; cases he; exact bD L44 (by kernel_rfl) H
theorem b44_1 {h : AH} {Q : Value → AH → Prop} {ds : List Nat} {t1 t2 t4 t26 : Value} (H :
 thn (biI .lss t1 (I 0)) fun v0 =>
 Br v0 (
 thn (stV h 1 t4 (I 10)) fun h1 =>
 thn (closeMarks ds h1) fun h2 =>
 thn (ld1 h2 t4) fun v3 =>
 Q v3 h2) (
 thn (ld1 h t2) fun v1 =>
 thn (nilV v1) fun v2 =>
 thn (padd 0 v2) fun v3 =>
 thn (padd 1 v3) fun v4 =>
 thn (ld1 h v4) fun v5 =>
 thn (biI .geq t1 v5) fun v6 =>
 Br v6 (
 thn (stV h 1 t4 (I 10)) fun h7 =>
 thn (closeMarks ds h7) fun h8 =>
 thn (ld1 h8 t4) fun v9 =>
 Q v9 h8) (
 A44_2 ds Q t1 t2 t4 t26 h))
) : A44_1 ds Q t1 t2 t4 t26 h := by intro e he; cases he; exact bD L44 (by kernel_rfl) H
theorem b44_2 {h : AH} {Q : Value → AH → Prop} {ds : List Nat} {t1 t2 t4 t26 : Value} (H :
 thn (ld1 h t2) fun v0 =>
 thn (nilV v0) fun v1 =>
 thn (padd 0 v1) fun v2 =>
 thn (ldN h 7 v2) fun v3 =>
 Cl Pr K 52 [v3, t1] h fun v4 h4 => -- donjon/place.LinesOf
 alc h4 (.marks true) fun d6 h5 =>
 ∀ e12 : Nat → Value, List.map e12 [2, 4, 26] = [t2, t4, t26] →
 alc h5 (lp Pr 44 (dcd 122) 34 e12 d6 .ready none) fun l7 h8 =>
 OkR Pr K v4 l7 h8 fun v9 h10 =>
 thn (endV h10 l7) fun r11 => (fun x14 h15 =>
 EndX x14 (
 thn (stV h15 1 t4 (I 0)) fun h16 =>
 thn (closeMarks (d6 :: ds) h16) fun h17 =>
 thn (ld1 h17 t4) fun v18 =>
 Q v18 h17) (
 thn (closeMarks (d6 :: ds) h15) fun h16 =>
 thn (ld1 h16 t4) fun v17 =>
 Q v17 h16) []) r11.1 r11.2
) : A44_2 ds Q t1 t2 t4 t26 h := by intro e he; cases he; exact bD L44 (by kernel_rfl) H
theorem b44_3 {h : AH} {Q : Value → AH → Prop} {l : Nat} {t2 t4 t26 : Value} (H :
 thn (beginV h l) fun h0 =>
 thn (ld1 h0 t2) fun v1 =>
 thn (fillL [(I 0), (I 0)] []) fun c2 =>
 Cl Pr K 53 [v1, t26, (.agg ⟨c2⟩)] h0 fun v3 h3 => -- (*donjon/bank.Memory).Write
 thn (biI .neq v3 (I 0)) fun v4 =>
 Br v4 (
 thn (stV h3 1 t4 v3) fun h5 =>
 thn (setLoop h5 l .done (some (some .ret))) fun h6 =>
 Q (.bool false) h6) (
 thn (setLoop h3 l .ready (some none)) fun h5 =>
 Q (.bool true) h5)
) : A44_3 l Q t2 t4 t26 h := by intro e he; cases he; exact bR L44 (by kernel_rfl) H
theorem c44 {h : AH} {Q : Value → AH → Prop} {a0 a1 : Value} (H : A44_0 [] Q a0 a1 undef h) : Cl Pr K 44 [a0, a1] h Q :=
  ok_enter (by kernel_rfl) (by kernel_rfl) (Eq.mp (by kernel_rfl) (H (fun i => ([a0, a1] : List Value).getD i undef) rfl))
theorem r44_0 {h : AH} {Q : Value → AH → Prop} {l d : Nat} {e : Nat → Value} {st : LoopState} {pd : Option Code} {t2 t4 t26 : Value} {a0 : Value} (hg : h.get l = some (lp Pr 44 (dcd 122) 34 e d st pd)) (he : List.map e [2, 4, 26] = [t2, t4, t26]) (H : A44_3 l Q t2 t4 a0 h) : OkF Pr K (.func (.yield l) #[] #[]) [a0] h Q := by
  cases he; refine okF_round ?_; exact enter_lp (lv := [2, 4, 26]) (vs := [e 2, e 4, a0]) hg (by kernel_rfl) (by kernel_rfl) (Eq.mp (by kernel_rfl) H)

/-! ### 45 donjon/isa.is: params 1, captured 0, results [tmp 2] -/
noncomputable def L45 : List (Option Nat × List Nat) := [(some 0, [0])]
noncomputable def A45_0 (Q : Value → AH → Prop) (t0 : Value) (h : AH) : Prop := Pt Pr K 45 none (retV Pr 45 Q) 9 [0] [.code (cc 45 2), .code (cc 45 3)] [] [t0] h
theorem b45_0 {h : AH} {Q : Value → AH → Prop} {t0 : Value} (H :
 thn (biI .geq t0 (I 1)) fun v0 =>
 Br v0 (
 thn (biI .lss t0 (I 12)) fun v1 =>
 Q v1 h) (
 Q (.bool false) h)
) : A45_0 Q t0 h := by intro e he; cases he; exact bF L45 (by kernel_rfl) H
theorem c45 {h : AH} {Q : Value → AH → Prop} {a0 : Value} (H : A45_0 Q a0 h) : Cl Pr K 45 [a0] h Q :=
  ok_enter (by kernel_rfl) (by kernel_rfl) (Eq.mp (by kernel_rfl) (H (fun i => ([a0] : List Value).getD i undef) rfl))

/-! ### 46 donjon/isa.numbers: params 1, captured 0, results [tmp 2] -/
noncomputable def L46 : List (Option Nat × List Nat) := [(some 0, [0])]
noncomputable def A46_0 (Q : Value → AH → Prop) (t0 : Value) (h : AH) : Prop := Pt Pr K 46 none (retV Pr 46 Q) 4 [0] [.code (cc 46 2), .code (cc 46 3)] [] [t0] h
theorem b46_0 {h : AH} {Q : Value → AH → Prop} {t0 : Value} (H :
 thn (blkOf 52 t0) fun b1 =>
 alc h b1 fun p2 h0 =>
 Q (.func (.func 54) #[] #[(pt p2 0 0)]) h0
) : A46_0 Q t0 h := by intro e he; cases he; exact bF L46 (by kernel_rfl) H
theorem c46 {h : AH} {Q : Value → AH → Prop} {a0 : Value} (H : A46_0 Q a0 h) : Cl Pr K 46 [a0] h Q :=
  ok_enter (by kernel_rfl) (by kernel_rfl) (Eq.mp (by kernel_rfl) (H (fun i => ([a0] : List Value).getD i undef) rfl))

/-! ### 47 donjon/isa.fits: params 3, captured 0, results [tmp 6] -/
noncomputable def L47 : List (Option Nat × List Nat) := [(some 0, [0, 1, 2]), (some 4, [1, 2, 7]), (some 6, [1, 2, 7]), (some 8, [1, 2, 7]), (some 10, [1, 2, 7])]
noncomputable def A47_0 (Q : Value → AH → Prop) (t0 t1 t2 : Value) (h : AH) : Prop := Pt Pr K 47 none (retV Pr 47 Q) 45 [0, 1, 2] [.code (cc 47 2), .code (cc 47 3)] [] [t0, t1, t2] h
noncomputable def A47_1 (Q : Value → AH → Prop) (t1 t2 t7 : Value) (h : AH) : Prop := Pt Pr K 47 none (retV Pr 47 Q) 45 [1, 2, 7] [.code (cc 47 214), .code (cc 47 215), .inBlock 0, .code (cc 47 7)] [] [t1, t2, t7] h
noncomputable def A47_2 (Q : Value → AH → Prop) (t1 t2 t7 : Value) (h : AH) : Prop := Pt Pr K 47 none (retV Pr 47 Q) 45 [1, 2, 7] [.code (cc 47 862), .code (cc 47 863), .inBlock 0, .code (cc 47 7)] [] [t1, t2, t7] h
noncomputable def A47_3 (Q : Value → AH → Prop) (t1 t2 t7 : Value) (h : AH) : Prop := Pt Pr K 47 none (retV Pr 47 Q) 45 [1, 2, 7] [.code (cc 47 3454), .code (cc 47 3455), .inBlock 0, .code (cc 47 7)] [] [t1, t2, t7] h
noncomputable def A47_4 (Q : Value → AH → Prop) (t1 t2 t7 : Value) (h : AH) : Prop := Pt Pr K 47 none (retV Pr 47 Q) 45 [1, 2, 7] [.code (cc 47 13822), .code (cc 47 13823), .inBlock 0, .code (cc 47 7)] [] [t1, t2, t7] h
theorem b47_0 {h : AH} {Q : Value → AH → Prop} {t0 t1 t2 : Value} (H :
 thn (biI .eql t0 (I 1)) fun v0 =>
 Br v0 (
 thn (biI .geq t1 (I 0)) fun v1 =>
 Br v1 (
 thn (biI .lss t1 (I 4)) fun v2 =>
 Q v2 h) (
 Q (.bool false) h)) (
 A47_1 Q t1 t2 t0 h)
) : A47_0 Q t0 t1 t2 h := by intro e he; cases he; exact bF L47 (by kernel_rfl) H
theorem b47_1 {h : AH} {Q : Value → AH → Prop} {t1 t2 t7 : Value} (H :
 thn (biI .eql t7 (I 2)) fun v0 =>
 Br v0 (
 Q (.bool true) h) (
 A47_2 Q t1 t2 t7 h)
) : A47_1 Q t1 t2 t7 h := by intro e he; cases he; exact bF L47 (by kernel_rfl) H
theorem b47_2 {h : AH} {Q : Value → AH → Prop} {t1 t2 t7 : Value} (H :
 thn (biI .eql t7 (I 3)) fun v0 =>
 Br v0 (
 thn (biI .geq t1 (I 1)) fun v1 =>
 Br v1 (
 thn (biI .leq t1 (I 3)) fun v2 =>
 Q v2 h) (
 Q (.bool false) h)) (
 A47_3 Q t1 t2 t7 h)
) : A47_2 Q t1 t2 t7 h := by intro e he; cases he; exact bF L47 (by kernel_rfl) H
theorem b47_3 {h : AH} {Q : Value → AH → Prop} {t1 t2 t7 : Value} (H :
 thn (biI .eql t7 (I 4)) fun v0 =>
 Br v0 (
 thn (biI .geq t1 (I 1)) fun v1 =>
 Br v1 (
 thn (biI .leq t1 (I 4)) fun v2 =>
 Q v2 h) (
 Q (.bool false) h)) (
 A47_4 Q t1 t2 t7 h)
) : A47_3 Q t1 t2 t7 h := by intro e he; cases he; exact bF L47 (by kernel_rfl) H
theorem b47_4 {h : AH} {Q : Value → AH → Prop} {t1 t2 t7 : Value} (H :
 thn (biI .eql t7 (I 5)) fun v0 =>
 Br v0 (
 thn (biI .geq t1 (I 0)) fun v1 =>
 Br v1 (
 thn (biI .leq t1 t2) fun v2 =>
 Q v2 h) (
 Q (.bool false) h)) (
 thn (biI .eql t1 (I 0)) fun v1 =>
 Q v1 h)
) : A47_4 Q t1 t2 t7 h := by intro e he; cases he; exact bF L47 (by kernel_rfl) H
theorem c47 {h : AH} {Q : Value → AH → Prop} {a0 a1 a2 : Value} (H : A47_0 Q a0 a1 a2 h) : Cl Pr K 47 [a0, a1, a2] h Q :=
  ok_enter (by kernel_rfl) (by kernel_rfl) (Eq.mp (by kernel_rfl) (H (fun i => ([a0, a1, a2] : List Value).getD i undef) rfl))

/-! ### 48 donjon/place.Line: params 2, captured 0, results [tmp 4, tmp 5, tmp 6] -/
noncomputable def L48 : List (Option Nat × List Nat) := [(some 0, [0, 1])]
noncomputable def A48_0 (Q : Value → AH → Prop) (t0 t1 : Value) (h : AH) : Prop := Pt Pr K 48 none (retV Pr 48 Q) 19 [0, 1] [.code (cc 48 2), .code (cc 48 3)] [] [t0, t1] h
theorem b48_0 {h : AH} {Q : Value → AH → Prop} {t0 t1 : Value} (H :
 thn (blkOf 23 t0) fun b1 =>
 alc h b1 fun p2 h0 =>
 thn (biI .lss t1 (I 0)) fun v3 =>
 Br v3 (
 Q (.tuple ⟨[(I 0), (I 0), (I 10)]⟩) h0) (
 thn (ldN h0 7 (pt p2 0 0)) fun v4 =>
 Cl Pr K 22 [v4] h0 fun v5 h5 => -- donjon/place.Words
 thn (biI .geq t1 v5) fun v6 =>
 Br v6 (
 Q (.tuple ⟨[(I 0), (I 0), (I 10)]⟩) h5) (
 thn (biI .quo t1 (I 2)) fun v7 =>
 thn (biI .rem t1 (I 2)) fun v8 =>
 Q (.tuple ⟨[v7, v8, (I 0)]⟩) h5))
) : A48_0 Q t0 t1 h := by intro e he; cases he; exact bF L48 (by kernel_rfl) H
theorem c48 {h : AH} {Q : Value → AH → Prop} {a0 a1 : Value} (H : A48_0 Q a0 a1 h) : Cl Pr K 48 [a0, a1] h Q :=
  ok_enter (by kernel_rfl) (by kernel_rfl) (Eq.mp (by kernel_rfl) (H (fun i => ([a0, a1] : List Value).getD i undef) rfl))

/-! ### 49 (*donjon/bank.Memory).find: params 2, captured 0, results [tmp 4, tmp 5, tmp 6] -/
noncomputable def L49 : List (Option Nat × List Nat) := [(some 0, [0, 1]), (some 3, [0, 1])]
noncomputable def A49_0 (Q : Value → AH → Prop) (t0 t1 : Value) (h : AH) : Prop := Pt Pr K 49 none (retV Pr 49 Q) 36 [0, 1] [.code (cc 49 2), .code (cc 49 3)] [] [t0, t1] h
noncomputable def A49_1 (Q : Value → AH → Prop) (t0 t1 : Value) (h : AH) : Prop := Pt Pr K 49 none (retV Pr 49 Q) 36 [0, 1] [.code (cc 49 14), .code (cc 49 15)] [] [t0, t1] h
theorem b49_0 {h : AH} {Q : Value → AH → Prop} {t0 t1 : Value} (H :
 thn (biP .eql t0 (.pointer none)) fun v0 =>
 Br v0 (
 Q (.tuple ⟨[(.pointer none), (I 0), (I 2)]⟩) h) (
 A49_1 Q t0 t1 h)
) : A49_0 Q t0 t1 h := by intro e he; cases he; exact bF L49 (by kernel_rfl) H
theorem b49_1 {h : AH} {Q : Value → AH → Prop} {t0 t1 : Value} (H :
 thn (nilV t0) fun v0 =>
 thn (padd 0 v0) fun v1 =>
 thn (ldN h 7 v1) fun v2 =>
 Cl Pr K 55 [v2, t1] h fun v3 h3 => -- donjon/place.Bank
 thn (extV 0 v3) fun v4 =>
 thn (extV 1 v3) fun v5 =>
 thn (biI .neq v5 (I 0)) fun v6 =>
 Br v6 (
 Q (.tuple ⟨[(.pointer none), (I 0), v5]⟩) h3) (
 resv h3 16 fun r8 h7 =>
 thn (nilV t0) fun v9 =>
 thn (padd 7 v9) fun v10 =>
 thn (ld1 h7 v10) fun v11 =>
 thn (idxS 3 v11 v4) fun v12 =>
 thn (nilV t0) fun v13 =>
 thn (padd 0 v13) fun v14 =>
 thn (padd 6 v14) fun v15 =>
 thn (ld1 h7 v15) fun v16 =>
 thn (biI .quo t1 v16) fun v17 =>
 Q (.tuple ⟨[v12, v17, (I 0)]⟩) h7)
) : A49_1 Q t0 t1 h := by intro e he; cases he; exact bF L49 (by kernel_rfl) H
theorem c49 {h : AH} {Q : Value → AH → Prop} {a0 a1 : Value} (H : A49_0 Q a0 a1 h) : Cl Pr K 49 [a0, a1] h Q :=
  ok_enter (by kernel_rfl) (by kernel_rfl) (Eq.mp (by kernel_rfl) (H (fun i => ([a0, a1] : List Value).getD i undef) rfl))

/-! ### 50 donjon/place.Granule: params 2, captured 0, results [tmp 4, tmp 5] -/
noncomputable def L50 : List (Option Nat × List Nat) := [(some 0, [0, 1])]
noncomputable def A50_0 (Q : Value → AH → Prop) (t0 t1 : Value) (h : AH) : Prop := Pt Pr K 50 none (retV Pr 50 Q) 16 [0, 1] [.code (cc 50 2), .code (cc 50 3)] [] [t0, t1] h
theorem b50_0 {h : AH} {Q : Value → AH → Prop} {t0 t1 : Value} (H :
 thn (blkOf 23 t0) fun b1 =>
 alc h b1 fun p2 h0 =>
 thn (biI .lss t1 (I 0)) fun v3 =>
 Br v3 (
 Q (.tuple ⟨[(I 0), (I 10)]⟩) h0) (
 thn (ldN h0 7 (pt p2 0 0)) fun v4 =>
 Cl Pr K 37 [v4] h0 fun v5 h5 => -- donjon/place.Lines
 thn (biI .geq t1 v5) fun v6 =>
 Br v6 (
 Q (.tuple ⟨[(I 0), (I 10)]⟩) h5) (
 thn (biI .quo t1 (I 2)) fun v7 =>
 Q (.tuple ⟨[v7, (I 0)]⟩) h5))
) : A50_0 Q t0 t1 h := by intro e he; cases he; exact bF L50 (by kernel_rfl) H
theorem c50 {h : AH} {Q : Value → AH → Prop} {a0 a1 : Value} (H : A50_0 Q a0 a1 h) : Cl Pr K 50 [a0, a1] h Q :=
  ok_enter (by kernel_rfl) (by kernel_rfl) (Eq.mp (by kernel_rfl) (H (fun i => ([a0, a1] : List Value).getD i undef) rfl))

/-! ### 51 donjon/table.May: params 2, captured 0, results [tmp 4] -/
noncomputable def L51 : List (Option Nat × List Nat) := [(some 0, [0, 1])]
noncomputable def A51_0 (Q : Value → AH → Prop) (t0 t1 : Value) (h : AH) : Prop := Pt Pr K 51 none (retV Pr 51 Q) 27 [0, 1] [.code (cc 51 2), .code (cc 51 3)] [] [t0, t1] h
theorem b51_0 {h : AH} {Q : Value → AH → Prop} {t0 t1 : Value} (H :
 thn (biI .lss t0 (I 0)) fun v0 =>
 Br v0 (
 Q (.bool false) h) (
 thn (biI .gtr t0 (I 3)) fun v1 =>
 Br v1 (
 Q (.bool false) h) (
 Cl Pr K 56 [t1] h fun v2 h2 => -- donjon/table.owns
 thn (unV .not v2) fun v3 =>
 Br v3 (
 Q (.bool false) h2) (
 thn (biI .eql t0 (I 0)) fun v4 =>
 Br v4 (
 Q (.bool true) h2) (
 thn (biI .eql t1 t0) fun v5 =>
 Br v5 (
 Q (.bool true) h2) (
 thn (biI .eql t1 (I 4)) fun v6 =>
 Q v6 h2)))))
) : A51_0 Q t0 t1 h := by intro e he; cases he; exact bF L51 (by kernel_rfl) H
theorem c51 {h : AH} {Q : Value → AH → Prop} {a0 a1 : Value} (H : A51_0 Q a0 a1 h) : Cl Pr K 51 [a0, a1] h Q :=
  ok_enter (by kernel_rfl) (by kernel_rfl) (Eq.mp (by kernel_rfl) (H (fun i => ([a0, a1] : List Value).getD i undef) rfl))

/-! ### 52 donjon/place.LinesOf: params 2, captured 0, results [tmp 4] -/
noncomputable def L52 : List (Option Nat × List Nat) := [(some 0, [0, 1])]
noncomputable def A52_0 (Q : Value → AH → Prop) (t0 t1 : Value) (h : AH) : Prop := Pt Pr K 52 none (retV Pr 52 Q) 6 [0, 1] [.code (cc 52 2), .code (cc 52 3)] [] [t0, t1] h
theorem b52_0 {h : AH} {Q : Value → AH → Prop} {t0 t1 : Value} (H :
 thn (blkOf 23 t0) fun b1 =>
 alc h b1 fun p2 h0 =>
 thn (blkOf 3 t1) fun b4 =>
 alc h0 b4 fun p5 h3 =>
 Q (.func (.func 57) #[] #[(pt p2 0 0), (pt p5 0 0)]) h3
) : A52_0 Q t0 t1 h := by intro e he; cases he; exact bF L52 (by kernel_rfl) H
theorem c52 {h : AH} {Q : Value → AH → Prop} {a0 a1 : Value} (H : A52_0 Q a0 a1 h) : Cl Pr K 52 [a0, a1] h Q :=
  ok_enter (by kernel_rfl) (by kernel_rfl) (Eq.mp (by kernel_rfl) (H (fun i => ([a0, a1] : List Value).getD i undef) rfl))

/-! ### 53 (*donjon/bank.Memory).Write: params 3, captured 0, results [tmp 6] -/
noncomputable def L53 : List (Option Nat × List Nat) := [(some 0, [0, 1, 2]), (some 4, [5, 7, 8])]
noncomputable def A53_0 (Q : Value → AH → Prop) (t0 t1 t2 : Value) (h : AH) : Prop := Pt Pr K 53 none (retV Pr 53 Q) 36 [0, 1, 2] [.code (cc 53 2), .code (cc 53 3)] [] [t0, t1, t2] h
noncomputable def A53_1 (Q : Value → AH → Prop) (t5 t7 t8 : Value) (h : AH) : Prop := Pt Pr K 53 none (retV Pr 53 Q) 36 [5, 7, 8] [.code (cc 53 30), .code (cc 53 31)] [] [t5, t7, t8] h
theorem b53_0 {h : AH} {Q : Value → AH → Prop} {t0 t1 t2 : Value} (H :
 thn (blkOf 101 t2) fun b1 =>
 alc h b1 fun p2 h0 =>
 Cl Pr K 49 [t0, t1] h0 fun v3 h3 => -- (*donjon/bank.Memory).find
 thn (extV 0 v3) fun v4 =>
 thn (extV 1 v3) fun v5 =>
 thn (extV 2 v3) fun v6 =>
 thn (biI .neq v6 (I 0)) fun v7 =>
 Br v7 (
 Q v6 h3) (
 A53_1 Q (pt p2 0 0) v4 v5 h3)
) : A53_0 Q t0 t1 t2 h := by intro e he; cases he; exact bF L53 (by kernel_rfl) H
theorem b53_1 {h : AH} {Q : Value → AH → Prop} {t5 t7 t8 : Value} (H :
 thn (nilV t7) fun v0 =>
 thn (padd 0 v0) fun v1 =>
 thn (padd 1 v1) fun v2 =>
 thn (ld1 h v2) fun v3 =>
 thn (biI .add v3 (I 1)) fun v4 =>
 thn (nilV t7) fun v5 =>
 thn (padd 0 v5) fun v6 =>
 thn (padd 1 v6) fun v7 =>
 thn (stV h 1 v7 v4) fun h8 =>
 resv h8 8 fun r10 h9 =>
 thn (nilV t7) fun v11 =>
 thn (padd 2 v11) fun v12 =>
 thn (ld1 h9 v12) fun v13 =>
 thn (ldN h9 2 t5) fun v14 =>
 thn (idxS 2 v13 t8) fun v15 =>
 thn (stV h9 2 v15 v14) fun h16 =>
 Q (I 0) h16
) : A53_1 Q t5 t7 t8 h := by intro e he; cases he; exact bF L53 (by kernel_rfl) H
theorem c53 {h : AH} {Q : Value → AH → Prop} {a0 a1 a2 : Value} (H : A53_0 Q a0 a1 a2 h) : Cl Pr K 53 [a0, a1, a2] h Q :=
  ok_enter (by kernel_rfl) (by kernel_rfl) (Eq.mp (by kernel_rfl) (H (fun i => ([a0, a1, a2] : List Value).getD i undef) rfl))

/-! ### 54 donjon/isa.numbers$1: params 1, captured 1, results [] -/
noncomputable def L54 : List (Option Nat × List Nat) := [(some 0, [0, 1]), (some 1, [0, 1, 11, 12]), (some 2, [0, 1, 11, 12]), (some 4, [0, 1, 11, 12])]
noncomputable def A54_0 (Q : Value → AH → Prop) (t0 t1 : Value) (h : AH) : Prop := Pt Pr K 54 none (retV Pr 54 Q) 28 [0, 1] [.code (cc 54 2), .code (cc 54 3)] [] [t0, t1] h
noncomputable def A54_1 (Q : Value → AH → Prop) (t0 t1 t11 t12 : Value) (h : AH) : Prop := Pt Pr K 54 none (retV Pr 54 Q) 28 [0, 1, 11, 12] [.code (cc 54 24), .code (cc 54 25), .inLoop (cc 54 12), .inBlock 0] [] [t0, t1, t11, t12] h
noncomputable def A54_2 (Q : Value → AH → Prop) (t0 t1 t11 t12 : Value) (h : AH) : Prop := Pt Pr K 54 none (retV Pr 54 Q) 28 [0, 1, 11, 12] [.code (cc 54 408), .code (cc 54 409), .inBlock 1, .code (cc 54 103), .inLoop (cc 54 12), .inBlock 0] [] [t0, t1, t11, t12] h
noncomputable def A54_3 (Q : Value → AH → Prop) (t0 t1 t11 t12 : Value) (h : AH) : Prop := Pt Pr K 54 none (retV Pr 54 Q) 28 [0, 1, 11, 12] [.code (cc 54 103), .inLoop (cc 54 12), .inBlock 0] [] [t0, t1, t11, t12] h
theorem b54_0 {h : AH} {Q : Value → AH → Prop} {t0 t1 : Value} (H :
 thn (padd 1 t1) fun v0 =>
 thn (ld1 h v0) fun v1 =>
 thn (padd 2 t1) fun v2 =>
 thn (ld1 h v2) fun v3 =>
 thn (padd 3 t1) fun v4 =>
 thn (ld1 h v4) fun v5 =>
 thn (fillL [(I 0), (I 0), (I 0)] [(0, 1, v1), (1, 1, v3), (2, 1, v5)]) fun c6 =>
 A54_1 Q t0 t1 (.agg ⟨c6⟩) (I 0) h
) : A54_0 Q t0 t1 h := by intro e he; cases he; exact bF L54 (by kernel_rfl) H
theorem b54_1 {h : AH} {Q : Value → AH → Prop} {t0 t1 t11 t12 : Value} (H :
 thn (biI .lss t12 (I 3)) fun v0 =>
 Br v0 (
 A54_2 Q t0 t1 t11 t12 h) (
 Q (.tuple ⟨[]⟩) h)
) : A54_1 Q t0 t1 t11 t12 h := by intro e he; cases he; exact bF L54 (by kernel_rfl) H
theorem b54_2 {h : AH} {Q : Value → AH → Prop} {t0 t1 t11 t12 : Value} (H :
 thn (at1 3 1 t11 t12) fun v0 =>
 thn (padd 0 t1) fun v1 =>
 thn (ld1 h v1) fun v2 =>
 thn (idxA 12 4 (.pointer (some ⟨1, 0, none⟩)) v2) fun v3 =>
 thn (padd 1 v3) fun v4 =>
 thn (idxA 3 1 v4 t12) fun v5 =>
 thn (ld1 h v5) fun v6 =>
 OkF Pr K t0 [v6, v0] h fun v7 h7 =>
 thn (unV .not v7) fun v8 =>
 Br v8 (
 Q (.tuple ⟨[]⟩) h7) (
 A54_3 Q t0 t1 t11 t12 h7)
) : A54_2 Q t0 t1 t11 t12 h := by intro e he; cases he; exact bF L54 (by kernel_rfl) H
theorem b54_3 {h : AH} {Q : Value → AH → Prop} {t0 t1 t11 t12 : Value} (H :
 thn (biI .add t12 (I 1)) fun v0 =>
 A54_1 Q t0 t1 t11 v0 h
) : A54_3 Q t0 t1 t11 t12 h := by intro e he; cases he; exact bF L54 (by kernel_rfl) H
theorem c54 {h : AH} {Q : Value → AH → Prop} {a0 a1 : Value} (H : A54_0 Q a0 a1 h) : Cl Pr K 54 [a0, a1] h Q :=
  ok_enter (by kernel_rfl) (by kernel_rfl) (Eq.mp (by kernel_rfl) (H (fun i => ([a0, a1] : List Value).getD i undef) rfl))

/-! ### 55 donjon/place.Bank: params 2, captured 0, results [tmp 4, tmp 5] -/
noncomputable def L55 : List (Option Nat × List Nat) := [(some 0, [0, 1])]
noncomputable def A55_0 (Q : Value → AH → Prop) (t0 t1 : Value) (h : AH) : Prop := Pt Pr K 55 none (retV Pr 55 Q) 18 [0, 1] [.code (cc 55 2), .code (cc 55 3)] [] [t0, t1] h
theorem b55_0 {h : AH} {Q : Value → AH → Prop} {t0 t1 : Value} (H :
 thn (blkOf 23 t0) fun b1 =>
 alc h b1 fun p2 h0 =>
 thn (biI .lss t1 (I 0)) fun v3 =>
 Br v3 (
 Q (.tuple ⟨[(I 0), (I 10)]⟩) h0) (
 thn (ldN h0 7 (pt p2 0 0)) fun v4 =>
 Cl Pr K 37 [v4] h0 fun v5 h5 => -- donjon/place.Lines
 thn (biI .geq t1 v5) fun v6 =>
 Br v6 (
 Q (.tuple ⟨[(I 0), (I 10)]⟩) h5) (
 thn (padd 6 (pt p2 0 0)) fun v7 =>
 thn (ld1 h5 v7) fun v8 =>
 thn (biI .rem t1 v8) fun v9 =>
 Q (.tuple ⟨[v9, (I 0)]⟩) h5))
) : A55_0 Q t0 t1 h := by intro e he; cases he; exact bF L55 (by kernel_rfl) H
theorem c55 {h : AH} {Q : Value → AH → Prop} {a0 a1 : Value} (H : A55_0 Q a0 a1 h) : Cl Pr K 55 [a0, a1] h Q :=
  ok_enter (by kernel_rfl) (by kernel_rfl) (Eq.mp (by kernel_rfl) (H (fun i => ([a0, a1] : List Value).getD i undef) rfl))

/-! ### 56 donjon/table.owns: params 1, captured 0, results [tmp 2] -/
noncomputable def L56 : List (Option Nat × List Nat) := [(some 0, [0])]
noncomputable def A56_0 (Q : Value → AH → Prop) (t0 : Value) (h : AH) : Prop := Pt Pr K 56 none (retV Pr 56 Q) 9 [0] [.code (cc 56 2), .code (cc 56 3)] [] [t0] h
theorem b56_0 {h : AH} {Q : Value → AH → Prop} {t0 : Value} (H :
 thn (biI .geq t0 (I 0)) fun v0 =>
 Br v0 (
 thn (biI .leq t0 (I 4)) fun v1 =>
 Q v1 h) (
 Q (.bool false) h)
) : A56_0 Q t0 h := by intro e he; cases he; exact bF L56 (by kernel_rfl) H
theorem c56 {h : AH} {Q : Value → AH → Prop} {a0 : Value} (H : A56_0 Q a0 h) : Cl Pr K 56 [a0] h Q :=
  ok_enter (by kernel_rfl) (by kernel_rfl) (Eq.mp (by kernel_rfl) (H (fun i => ([a0] : List Value).getD i undef) rfl))

/-! ### 57 donjon/place.LinesOf$1: params 1, captured 2, results [] -/
noncomputable def L57 : List (Option Nat × List Nat) := [(some 0, [0, 1, 2]), (some 1, [0, 2]), (some 2, [0, 2, 18]), (some 3, [0, 2, 18]), (some 5, [0, 2, 18])]
noncomputable def A57_0 (Q : Value → AH → Prop) (t0 t1 t2 : Value) (h : AH) : Prop := Pt Pr K 57 none (retV Pr 57 Q) 29 [0, 1, 2] [.code (cc 57 4), .code (cc 57 5), .code (cc 57 3)] [] [t0, t1, t2] h
noncomputable def A57_1 (Q : Value → AH → Prop) (t0 t2 : Value) (h : AH) : Prop := Pt Pr K 57 none (retV Pr 57 Q) 29 [0, 2] [.code (cc 57 6), .code (cc 57 7)] [] [t0, t2] h
noncomputable def A57_2 (Q : Value → AH → Prop) (t0 t2 t18 : Value) (h : AH) : Prop := Pt Pr K 57 none (retV Pr 57 Q) 29 [0, 2, 18] [.code (cc 57 56), .code (cc 57 57), .inLoop (cc 57 28), .inBlock 0] [] [t0, t2, t18] h
noncomputable def A57_3 (Q : Value → AH → Prop) (t0 t2 t18 : Value) (h : AH) : Prop := Pt Pr K 57 none (retV Pr 57 Q) 29 [0, 2, 18] [.code (cc 57 920), .code (cc 57 921), .inBlock 1, .code (cc 57 231), .inLoop (cc 57 28), .inBlock 0] [] [t0, t2, t18] h
noncomputable def A57_4 (Q : Value → AH → Prop) (t0 t2 t18 : Value) (h : AH) : Prop := Pt Pr K 57 none (retV Pr 57 Q) 29 [0, 2, 18] [.code (cc 57 231), .inLoop (cc 57 28), .inBlock 0] [] [t0, t2, t18] h
theorem b57_0 {h : AH} {Q : Value → AH → Prop} {t0 t1 t2 : Value} (H :
 thn (ldN h 7 t1) fun v0 =>
 Cl Pr K 21 [v0] h fun v1 h1 => -- donjon/place.Check
 thn (biI .neq v1 (I 0)) fun v2 =>
 Br v2 (
 Q (.tuple ⟨[]⟩) h1) (
 thn (ld1 h1 t2) fun v3 =>
 thn (biI .lss v3 (I 0)) fun v4 =>
 Br v4 (
 Q (.tuple ⟨[]⟩) h1) (
 thn (ld1 h1 t2) fun v5 =>
 thn (padd 1 t1) fun v6 =>
 thn (ld1 h1 v6) fun v7 =>
 thn (biI .geq v5 v7) fun v8 =>
 Br v8 (
 Q (.tuple ⟨[]⟩) h1) (
 A57_1 Q t0 t2 h1)))
) : A57_0 Q t0 t1 t2 h := by intro e he; cases he; exact bF L57 (by kernel_rfl) H
theorem b57_1 {h : AH} {Q : Value → AH → Prop} {t0 t2 : Value} (H :
 A57_2 Q t0 t2 (I 0) h
) : A57_1 Q t0 t2 h := by intro e he; cases he; exact bF L57 (by kernel_rfl) H
theorem b57_2 {h : AH} {Q : Value → AH → Prop} {t0 t2 t18 : Value} (H :
 thn (biI .lss t18 (I 2)) fun v0 =>
 Br v0 (
 A57_3 Q t0 t2 t18 h) (
 Q (.tuple ⟨[]⟩) h)
) : A57_2 Q t0 t2 t18 h := by intro e he; cases he; exact bF L57 (by kernel_rfl) H
theorem b57_3 {h : AH} {Q : Value → AH → Prop} {t0 t2 t18 : Value} (H :
 thn (ld1 h t2) fun v0 =>
 thn (biI .mul v0 (I 2)) fun v1 =>
 thn (biI .add v1 t18) fun v2 =>
 OkF Pr K t0 [v2] h fun v3 h3 =>
 thn (unV .not v3) fun v4 =>
 Br v4 (
 Q (.tuple ⟨[]⟩) h3) (
 A57_4 Q t0 t2 t18 h3)
) : A57_3 Q t0 t2 t18 h := by intro e he; cases he; exact bF L57 (by kernel_rfl) H
theorem b57_4 {h : AH} {Q : Value → AH → Prop} {t0 t2 t18 : Value} (H :
 thn (biI .add t18 (I 1)) fun v0 =>
 A57_2 Q t0 t2 v0 h
) : A57_4 Q t0 t2 t18 h := by intro e he; cases he; exact bF L57 (by kernel_rfl) H
theorem c57 {h : AH} {Q : Value → AH → Prop} {a0 a1 a2 : Value} (H : A57_0 Q a0 a1 a2 h) : Cl Pr K 57 [a0, a1, a2] h Q :=
  ok_enter (by kernel_rfl) (by kernel_rfl) (Eq.mp (by kernel_rfl) (H (fun i => ([a0, a1, a2] : List Value).getD i undef) rfl))

end Go.Proofs.YtincdgimnjofpaaDoor
end
