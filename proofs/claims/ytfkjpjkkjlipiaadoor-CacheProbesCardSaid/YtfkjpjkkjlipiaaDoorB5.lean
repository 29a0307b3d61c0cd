/- A part of the proof. -/
import Derived.Test.YtfkjpjkkjlipiaaDoorChecked
import Derived.Test.YtfkjpjkkjlipiaaDoorB4
import Derived.KernelRfl
section
namespace Go.Proofs.YtfkjpjkkjlipiaaDoor
open Go Go.Ab
set_option maxRecDepth 100000
noncomputable abbrev Pr : Program := Tryd.prog
noncomputable def cc (f n : Nat) : Code := cd Pr f (dcd n)
noncomputable def K0 : FuncId → List Value → Option Ans := fun _ _ => none
noncomputable def K : FuncId → List Value → Option Ans := addK K0 9 (.bool true)
/-! ### 4 donjon/donjonlaw13.CacheNil: params 2, captured 0, results [tmp 4] -/
noncomputable def L4 : List (Option Nat × List Nat) := [(some 0, [0, 1])]
noncomputable def A4_0 (Q : Value → AH → Prop) (t0 t1 : Value) (h : AH) : Prop := Pt Pr K 4 none (retV Pr 4 Q) 154 [0, 1] [.code (cc 4 2), .code (cc 4 3)] [] [t0, t1] h
theorem b4_0 {h : AH} {Q : Value → AH → Prop} {t0 t1 : Value} (H :
 thn (blkOf 28 t0) fun b1 =>
 alc h b1 fun p2 h0 =>
 thn (blkOf 36 t1) fun b4 =>
 alc h0 b4 fun p5 h3 =>
 thn (padd 1 (pt p2 0 0)) fun v6 =>
 thn (ld1 h3 v6) fun v7 =>
 thn (padd 3 (pt p2 0 0)) fun v8 =>
 thn (ld1 h3 v8) fun v9 =>
 thn (padd 5 (pt p2 0 0)) fun v10 =>
 thn (ld1 h3 v10) fun v11 =>
 Cl Pr K 19 [(.pointer none), v7, v9, v11] h3 fun v12 h12 => -- (*donjon/cache.Cache).Want
 thn (extV 0 v12) fun v13 =>
 thn (extV 1 v12) fun v14 =>
 thn (padd 6 (pt p2 0 0)) fun v15 =>
 thn (ldN h12 9 v15) fun v16 =>
 Cl Pr K 15 [(.pointer none), v16] h12 fun v17 h17 => -- (*donjon/cache.Cache).Take
 thn (extV 0 v17) fun v18 =>
 thn (extV 1 v17) fun v19 =>
 thn (padd 1 (pt p2 0 0)) fun v20 =>
 thn (ld1 h17 v20) fun v21 =>
 thn (padd 2 (pt p2 0 0)) fun v22 =>
 thn (ld1 h17 v22) fun v23 =>
 thn (padd 3 (pt p2 0 0)) fun v24 =>
 thn (ld1 h17 v24) fun v25 =>
 Cl Pr K 20 [(.pointer none), v21, v23, v25] h17 fun v26 h26 => -- (*donjon/cache.Cache).Read
 thn (extV 0 v26) fun v27 =>
 thn (extV 1 v26) fun v28 =>
 Cl Pr K 18 [(.pointer none)] h26 fun v29 h29 => -- (*donjon/cache.Cache).Asked
 thn (extV 0 v29) fun v30 =>
 thn (extV 1 v29) fun v31 =>
 thn (extV 2 v29) fun v32 =>
 Cl Pr K 21 [(.pointer none)] h29 fun v33 h33 => -- (*donjon/cache.Cache).Going
 thn (extV 0 v33) fun v34 =>
 thn (extV 1 v33) fun v35 =>
 thn (ldN h33 7 (pt p5 0 0)) fun v36 =>
 Cl Pr K 10 [v36, (I 0)] h33 fun v37 h37 => -- donjon/cache.New
 thn (extV 0 v37) fun v38 =>
 thn (extV 1 v37) fun v39 =>
 thn (lenS v13) fun v40 =>
 thn (lenS v18) fun v41 =>
 thn (biI .add v40 v41) fun v42 =>
 thn (biI .eql v42 (I 0)) fun v43 =>
 Br v43 (
 thn (biI .eql v14 (I 2)) fun v44 =>
 Br v44 (
 thn (biI .eql v19 v14) fun v45 =>
 Br v45 (
 thn (biI .eql v27 (I 0)) fun v46 =>
 Br v46 (
 thn (biI .eql v28 v14) fun v47 =>
 Br v47 (
 thn (padd 1 (pt p2 0 0)) fun v48 =>
 thn (ld1 h37 v48) fun v49 =>
 thn (padd 2 (pt p2 0 0)) fun v50 =>
 thn (ld1 h37 v50) fun v51 =>
 thn (padd 3 (pt p2 0 0)) fun v52 =>
 thn (ld1 h37 v52) fun v53 =>
 thn (padd 4 (pt p2 0 0)) fun v54 =>
 thn (ld1 h37 v54) fun v55 =>
 Cl Pr K 22 [(.pointer none), v49, v51, v53, v55] h37 fun v56 h56 => -- (*donjon/cache.Cache).Write
 thn (biI .eql v56 v14) fun v57 =>
 Br v57 (
 thn (padd 1 (pt p2 0 0)) fun v58 =>
 thn (ld1 h56 v58) fun v59 =>
 thn (padd 3 (pt p2 0 0)) fun v60 =>
 thn (ld1 h56 v60) fun v61 =>
 thn (padd 5 (pt p2 0 0)) fun v62 =>
 thn (ld1 h56 v62) fun v63 =>
 Cl Pr K 17 [(.pointer none), v59, v61, v63] h56 fun v64 h64 => -- (*donjon/cache.Cache).May
 thn (unV .not v64) fun v65 =>
 Br v65 (
 thn (biI .eql v30 (I 0)) fun v66 =>
 Br v66 (
 thn (unV .not v31) fun v67 =>
 Br v67 (
 thn (unV .not v32) fun v68 =>
 Br v68 (
 thn (biI .eql v34 (I 0)) fun v69 =>
 Br v69 (
 thn (unV .not v35) fun v70 =>
 Br v70 (
 Cl Pr K 14 [(.pointer none)] h64 fun v71 h71 => -- (*donjon/cache.Cache).Twin
 thn (biP .eql v71 (.pointer none)) fun v72 =>
 Br v72 (
 thn (ldN h71 7 (pt p5 0 0)) fun v73 =>
 Cl Pr K 23 [v73] h71 fun v74 h74 => -- donjon/place.Check
 thn (biI .eql v39 v74) fun v75 =>
 Br v75 (
 thn (biP .eql v38 (.pointer none)) fun v76 =>
 thn (biI .neq v39 (I 0)) fun v77 =>
 thn (biB .eql v76 v77) fun v78 =>
 Br v78 (
 Cl Pr K 9 [] h74 fun v79 h79 => -- donjon/donjonlaw13.awake
 Q v79 h79) (
 Q (.bool false) h74)) (
 Q (.bool false) h74)) (
 Q (.bool false) h71)) (
 Q (.bool false) h64)) (
 Q (.bool false) h64)) (
 Q (.bool false) h64)) (
 Q (.bool false) h64)) (
 Q (.bool false) h64)) (
 Q (.bool false) h64)) (
 Q (.bool false) h56)) (
 Q (.bool false) h37)) (
 Q (.bool false) h37)) (
 Q (.bool false) h37)) (
 Q (.bool false) h37)) (
 Q (.bool false) h37)
) : A4_0 Q t0 t1 h := by intro e he; cases he; exact bF L4 (by kernel_rfl) H
theorem c4 {h : AH} {Q : Value → AH → Prop} {a0 a1 : Value} (H : A4_0 Q a0 a1 h) : Cl Pr K 4 [a0, a1] h Q :=
  ok_enter (by kernel_rfl) (by kernel_rfl) (Eq.mp (by kernel_rfl) (H (fun i => ([a0, a1] : List Value).getD i undef) rfl))

/-! ### 10 donjon/cache.New: params 2, captured 0, results [tmp 4, tmp 5] -/
noncomputable def L10 : List (Option Nat × List Nat) := [(some 0, [0, 1]), (some 4, [1, 2]), (some 6, [1, 2])]
noncomputable def A10_0 (Q : Value → AH → Prop) (t0 t1 : Value) (h : AH) : Prop := Pt Pr K 10 none (retV Pr 10 Q) 38 [0, 1] [.code (cc 10 2), .code (cc 10 3)] [] [t0, t1] h
noncomputable def A10_1 (Q : Value → AH → Prop) (t1 t2 : Value) (h : AH) : Prop := Pt Pr K 10 none (retV Pr 10 Q) 38 [1, 2] [.code (cc 10 28), .code (cc 10 29), .code (cc 10 15)] [] [t1, t2] h
noncomputable def A10_2 (Q : Value → AH → Prop) (t1 t2 : Value) (h : AH) : Prop := Pt Pr K 10 none (retV Pr 10 Q) 38 [1, 2] [.code (cc 10 30), .code (cc 10 31)] [] [t1, t2] h
theorem b10_0 {h : AH} {Q : Value → AH → Prop} {t0 t1 : Value} (H :
 thn (blkOf 36 t0) fun b1 =>
 alc h b1 fun p2 h0 =>
 thn (ldN h0 7 (pt p2 0 0)) fun v3 =>
 Cl Pr K 23 [v3] h0 fun v4 h4 => -- donjon/place.Check
 thn (biI .neq v4 (I 0)) fun v5 =>
 Br v5 (
 Q (.tuple ⟨[(.pointer none), v4]⟩) h4) (
 A10_1 Q t1 (pt p2 0 0) h4)
) : A10_0 Q t0 t1 h := by intro e he; cases he; exact bF L10 (by kernel_rfl) H
theorem b10_1 {h : AH} {Q : Value → AH → Prop} {t1 t2 : Value} (H :
 thn (biI .lss t1 (I 0)) fun v0 =>
 Br v0 (
 Q (.tuple ⟨[(.pointer none), (I 10)]⟩) h) (
 thn (padd 0 t2) fun v1 =>
 thn (ld1 h v1) fun v2 =>
 thn (biI .geq t1 v2) fun v3 =>
 Br v3 (
 Q (.tuple ⟨[(.pointer none), (I 10)]⟩) h) (
 A10_2 Q t1 t2 h))
) : A10_1 Q t1 t2 h := by intro e he; cases he; exact bF L10 (by kernel_rfl) H
theorem b10_2 {h : AH} {Q : Value → AH → Prop} {t1 t2 : Value} (H :
 thn (padd 2 t2) fun v0 =>
 thn (ld1 h v0) fun v1 =>
 thn (padd 3 t2) fun v2 =>
 thn (ld1 h v2) fun v3 =>
 Cl Pr K 35 [v1, v3] h fun v4 h4 => -- donjon/tags.New[donjon/cache.Copy]
 thn (extV 0 v4) fun v5 =>
 thn (extV 1 v4) fun v6 =>
 thn (biI .neq v6 (I 0)) fun v7 =>
 Br v7 (
 Q (.tuple ⟨[(.pointer none), v6]⟩) h4) (
 thn (ldN h4 7 t2) fun v8 =>
 thn (fillL [(.pointer none), (I 0), (I 0), (I 0), (I 0), (I 0), (I 0), (I 0), (I 0), (I 0), (.bool false), (.bool false), (I 0), (I 0), (I 0), (I 0), (I 0), (.bool false)] [(0, 1, v5), (1, 7, v8), (8, 1, t1)]) fun c9 =>
 thn (blkOf 55 (.agg ⟨c9⟩)) fun b11 =>
 alc h4 b11 fun p12 h10 =>
 Q (.tuple ⟨[(pt p12 0 0), (I 0)]⟩) h10)
) : A10_2 Q t1 t2 h := by intro e he; cases he; exact bF L10 (by kernel_rfl) H
theorem c10 {h : AH} {Q : Value → AH → Prop} {a0 a1 : Value} (H : A10_0 Q a0 a1 h) : Cl Pr K 10 [a0, a1] h Q :=
  ok_enter (by kernel_rfl) (by kernel_rfl) (Eq.mp (by kernel_rfl) (H (fun i => ([a0, a1] : List Value).getD i undef) rfl))

/-! ### 14 (*donjon/cache.Cache).Twin: params 1, captured 0, results [tmp 2] -/
noncomputable def L14 : List (Option Nat × List Nat) := [(some 0, [0]), (some 3, [0])]
noncomputable def A14_0 (Q : Value → AH → Prop) (t0 : Value) (h : AH) : Prop := Pt Pr K 14 none (retV Pr 14 Q) 15 [0] [.code (cc 14 2), .code (cc 14 3)] [] [t0] h
noncomputable def A14_1 (Q : Value → AH → Prop) (t0 : Value) (h : AH) : Prop := Pt Pr K 14 none (retV Pr 14 Q) 15 [0] [.code (cc 14 14), .code (cc 14 15)] [] [t0] h
theorem b14_0 {h : AH} {Q : Value → AH → Prop} {t0 : Value} (H :
 thn (biP .eql t0 (.pointer none)) fun v0 =>
 Br v0 (
 Q (.pointer none) h) (
 A14_1 Q t0 h)
) : A14_0 Q t0 h := by intro e he; cases he; exact bF L14 (by kernel_rfl) H
theorem b14_1 {h : AH} {Q : Value → AH → Prop} {t0 : Value} (H :
 thn (nilV t0) fun v0 =>
 thn (ldN h 18 v0) fun v1 =>
 alc h (.cells [(.pointer none), (I 0), (I 0), (I 0), (I 0), (I 0), (I 0), (I 0), (I 0), (I 0), (.bool false), (.bool false), (I 0), (I 0), (I 0), (I 0), (I 0), (.bool false)] 55 (0, 0) true) fun p3 h2 =>
 thn (stV h2 18 (pt p3 0 0) v1) fun h4 =>
 thn (nilV t0) fun v5 =>
 thn (padd 0 v5) fun v6 =>
 thn (ld1 h4 v6) fun v7 =>
 Cl Pr K 40 [v7] h4 fun v8 h8 => -- (*donjon/tags.Cache[donjon/cache.Copy]).Copy
 thn (padd 0 (pt p3 0 0)) fun v9 =>
 thn (stV h8 1 v9 v8) fun h10 =>
 Q (pt p3 0 0) h10
) : A14_1 Q t0 h := by intro e he; cases he; exact bF L14 (by kernel_rfl) H
theorem c14 {h : AH} {Q : Value → AH → Prop} {a0 : Value} (H : A14_0 Q a0 h) : Cl Pr K 14 [a0] h Q :=
  ok_enter (by kernel_rfl) (by kernel_rfl) (Eq.mp (by kernel_rfl) (H (fun i => ([a0] : List Value).getD i undef) rfl))

/-! ### 15 (*donjon/cache.Cache).Take: params 2, captured 0, results [tmp 4, tmp 5] -/
noncomputable def L15 : List (Option Nat × List Nat) := [(some 0, [0, 1]), (some 3, [0, 3]), (some 4, [0, 3, 10, 11, 12]), (some 5, [0, 3, 10, 11, 12]), (some 10, [0, 3, 10, 11, 12]), (some 7, [0, 3, 7])]
noncomputable def A15_0 (Q : Value → AH → Prop) (t0 t1 : Value) (h : AH) : Prop := Pt Pr K 15 none (retV Pr 15 Q) 34 [0, 1] [.code (cc 15 2), .code (cc 15 3)] [] [t0, t1] h
noncomputable def A15_1 (Q : Value → AH → Prop) (t0 t3 : Value) (h : AH) : Prop := Pt Pr K 15 none (retV Pr 15 Q) 34 [0, 3] [.code (cc 15 28), .code (cc 15 29), .code (cc 15 15)] [] [t0, t3] h
noncomputable def A15_2 (Q : Value → AH → Prop) (t0 t3 t10 t11 t12 : Value) (h : AH) : Prop := Pt Pr K 15 none (retV Pr 15 Q) 34 [0, 3, 10, 11, 12] [.code (cc 15 232), .code (cc 15 233), .inLoop (cc 15 116), .inBlock 0, .code (cc 15 15)] [] [t0, t3, t10, t11, t12] h
noncomputable def A15_3 (Q : Value → AH → Prop) (t0 t3 t10 t11 t12 : Value) (h : AH) : Prop := Pt Pr K 15 none (retV Pr 15 Q) 34 [0, 3, 10, 11, 12] [.code (cc 15 3736), .code (cc 15 3737), .inBlock 1, .code (cc 15 935), .inLoop (cc 15 116), .inBlock 0, .code (cc 15 15)] [] [t0, t3, t10, t11, t12] h
noncomputable def A15_4 (Q : Value → AH → Prop) (t0 t3 t10 t11 t12 : Value) (h : AH) : Prop := Pt Pr K 15 none (retV Pr 15 Q) 34 [0, 3, 10, 11, 12] [.code (cc 15 935), .inLoop (cc 15 116), .inBlock 0, .code (cc 15 15)] [] [t0, t3, t10, t11, t12] h
noncomputable def A15_5 (Q : Value → AH → Prop) (t0 t3 t7 : Value) (h : AH) : Prop := Pt Pr K 15 none (retV Pr 15 Q) 34 [0, 3, 7] [.code (cc 15 29900), .code (cc 15 29901), .code (cc 15 14951), .inBlock 1, .code (cc 15 935), .inLoop (cc 15 116), .inBlock 0, .code (cc 15 15)] [] [t0, t3, t7] h
theorem b15_0 {h : AH} {Q : Value → AH → Prop} {t0 t1 : Value} (H :
 thn (blkOf 26 t1) fun b1 =>
 alc h b1 fun p2 h0 =>
 thn (biP .eql t0 (.pointer none)) fun v3 =>
 Br v3 (
 Q (.tuple ⟨[(.slice none 0 0), (I 2)]⟩) h0) (
 A15_1 Q t0 (pt p2 0 0) h0)
) : A15_0 Q t0 t1 h := by intro e he; cases he; exact bF L15 (by kernel_rfl) H
theorem b15_1 {h : AH} {Q : Value → AH → Prop} {t0 t3 : Value} (H :
 Cl Pr K 41 [] h fun v0 h0 => -- donjon/cache.hands
 thn (lenS v0) fun v1 =>
 A15_2 Q t0 t3 v0 v1 (I 0) h0
) : A15_1 Q t0 t3 h := by intro e he; cases he; exact bF L15 (by kernel_rfl) H
theorem b15_2 {h : AH} {Q : Value → AH → Prop} {t0 t3 t10 t11 t12 : Value} (H :
 thn (biI .lss t12 t11) fun v0 =>
 Br v0 (
 A15_3 Q t0 t3 t10 t11 t12 h) (
 Q (.tuple ⟨[(.slice none 0 0), (I 15)]⟩) h)
) : A15_2 Q t0 t3 t10 t11 t12 h := by intro e he; cases he; exact bF L15 (by kernel_rfl) H
theorem b15_3 {h : AH} {Q : Value → AH → Prop} {t0 t3 t10 t11 t12 : Value} (H :
 thn (idxS 2 t10 t12) fun v0 =>
 thn (ldN h 2 v0) fun v1 =>
 alc h (.cells [(I 0), .nilFunc] 108 (0, 0) true) fun p3 h2 =>
 thn (stV h2 2 (pt p3 0 0) v1) fun h4 =>
 thn (padd 0 (pt p3 0 0)) fun v5 =>
 thn (ld1 h4 v5) fun v6 =>
 thn (padd 0 t3) fun v7 =>
 thn (ld1 h4 v7) fun v8 =>
 thn (biI .neq v6 v8) fun v9 =>
 Br v9 (
 A15_4 Q t0 t3 t10 t11 t12 h4) (
 A15_5 Q t0 t3 (pt p3 0 0) h4)
) : A15_3 Q t0 t3 t10 t11 t12 h := by intro e he; cases he; exact bF L15 (by kernel_rfl) H
theorem b15_4 {h : AH} {Q : Value → AH → Prop} {t0 t3 t10 t11 t12 : Value} (H :
 thn (biI .add t12 (I 1)) fun v0 =>
 A15_2 Q t0 t3 t10 t11 v0 h
) : A15_4 Q t0 t3 t10 t11 t12 h := by intro e he; cases he; exact bF L15 (by kernel_rfl) H
theorem b15_5 {h : AH} {Q : Value → AH → Prop} {t0 t3 t7 : Value} (H :
 thn (padd 2 t3) fun v0 =>
 thn (ld1 h v0) fun v1 =>
 Cl Pr K 42 [t0, v1] h fun v2 h2 => -- (*donjon/cache.Cache).has
 thn (unV .not v2) fun v3 =>
 Br v3 (
 Q (.tuple ⟨[(.slice none 0 0), (I 10)]⟩) h2) (
 thn (padd 1 t7) fun v4 =>
 thn (ld1 h2 v4) fun v5 =>
 thn (ldN h2 9 t3) fun v6 =>
 OkF Pr K v5 [t0, v6] h2 fun v7 h7 =>
 thn (extV 0 v7) fun v8 =>
 thn (extV 1 v7) fun v9 =>
 Q (.tuple ⟨[v8, v9]⟩) h7)
) : A15_5 Q t0 t3 t7 h := by intro e he; cases he; exact bF L15 (by kernel_rfl) H
theorem c15 {h : AH} {Q : Value → AH → Prop} {a0 a1 : Value} (H : A15_0 Q a0 a1 h) : Cl Pr K 15 [a0, a1] h Q :=
  ok_enter (by kernel_rfl) (by kernel_rfl) (Eq.mp (by kernel_rfl) (H (fun i => ([a0, a1] : List Value).getD i undef) rfl))

/-! ### 17 (*donjon/cache.Cache).May: params 4, captured 0, results [tmp 8] -/
noncomputable def L17 : List (Option Nat × List Nat) := [(some 0, [0, 1, 2, 3]), (some 3, [0, 1, 2, 3])]
noncomputable def A17_0 (Q : Value → AH → Prop) (t0 t1 t2 t3 : Value) (h : AH) : Prop := Pt Pr K 17 none (retV Pr 17 Q) 35 [0, 1, 2, 3] [.code (cc 17 2), .code (cc 17 3)] [] [t0, t1, t2, t3] h
noncomputable def A17_1 (Q : Value → AH → Prop) (t0 t1 t2 t3 : Value) (h : AH) : Prop := Pt Pr K 17 none (retV Pr 17 Q) 35 [0, 1, 2, 3] [.code (cc 17 14), .code (cc 17 15)] [] [t0, t1, t2, t3] h
theorem b17_0 {h : AH} {Q : Value → AH → Prop} {t0 t1 t2 t3 : Value} (H :
 thn (biP .eql t0 (.pointer none)) fun v0 =>
 Br v0 (
 Q (.bool false) h) (
 A17_1 Q t0 t1 t2 t3 h)
) : A17_0 Q t0 t1 t2 t3 h := by intro e he; cases he; exact bF L17 (by kernel_rfl) H
theorem b17_1 {h : AH} {Q : Value → AH → Prop} {t0 t1 t2 t3 : Value} (H :
 thn (nilV t0) fun v0 =>
 thn (padd 0 v0) fun v1 =>
 thn (ld1 h v1) fun v2 =>
 Cl Pr K 16 [v2, t1] h fun v3 h3 => -- (*donjon/tags.Cache[donjon/cache.Copy]).Peek
 thn (extV 0 v3) fun v4 =>
 thn (extV 1 v3) fun v5 =>
 alc h3 (.cells [(I 0), (I 0), (I 0), (I 0)] 46 (0, 0) true) fun p7 h6 =>
 thn (stV h6 4 (pt p7 0 0) v4) fun h8 =>
 thn (biI .eql v5 (I 0)) fun v9 =>
 Br v9 (
 thn (padd 1 (pt p7 0 0)) fun v10 =>
 thn (ld1 h8 v10) fun v11 =>
 thn (biI .eql v11 t2) fun v12 =>
 Br v12 (
 thn (ldN h8 4 (pt p7 0 0)) fun v13 =>
 Cl Pr K 44 [v13, t3] h8 fun v14 h14 => -- (donjon/cache.Copy).allows
 Q v14 h14) (
 Q (.bool false) h8)) (
 Q (.bool false) h8)
) : A17_1 Q t0 t1 t2 t3 h := by intro e he; cases he; exact bF L17 (by kernel_rfl) H
theorem c17 {h : AH} {Q : Value → AH → Prop} {a0 a1 a2 a3 : Value} (H : A17_0 Q a0 a1 a2 a3 h) : Cl Pr K 17 [a0, a1, a2, a3] h Q :=
  ok_enter (by kernel_rfl) (by kernel_rfl) (Eq.mp (by kernel_rfl) (H (fun i => ([a0, a1, a2, a3] : List Value).getD i undef) rfl))

/-! ### 18 (*donjon/cache.Cache).Asked: params 1, captured 0, results [tmp 2, tmp 3, tmp 4] -/
noncomputable def L18 : List (Option Nat × List Nat) := [(some 0, [0])]
noncomputable def A18_0 (Q : Value → AH → Prop) (t0 : Value) (h : AH) : Prop := Pt Pr K 18 none (retV Pr 18 Q) 22 [0] [.code (cc 18 2), .code (cc 18 3)] [] [t0] h
theorem b18_0 {h : AH} {Q : Value → AH → Prop} {t0 : Value} (H :
 thn (biP .eql t0 (.pointer none)) fun v0 =>
 Br v0 (
 Q (.tuple ⟨[(I 0), (.bool false), (.bool false)]⟩) h) (
 resv h 18 fun r2 h1 =>
 thn (nilV t0) fun v3 =>
 thn (padd 9 v3) fun v4 =>
 thn (padd 0 v4) fun v5 =>
 thn (ld1 h1 v5) fun v6 =>
 thn (nilV t0) fun v7 =>
 thn (padd 9 v7) fun v8 =>
 thn (padd 1 v8) fun v9 =>
 thn (ld1 h1 v9) fun v10 =>
 thn (nilV t0) fun v11 =>
 thn (padd 9 v11) fun v12 =>
 thn (padd 2 v12) fun v13 =>
 thn (ld1 h1 v13) fun v14 =>
 Q (.tuple ⟨[v6, v10, v14]⟩) h1)
) : A18_0 Q t0 h := by intro e he; cases he; exact bF L18 (by kernel_rfl) H
theorem c18 {h : AH} {Q : Value → AH → Prop} {a0 : Value} (H : A18_0 Q a0 h) : Cl Pr K 18 [a0] h Q :=
  ok_enter (by kernel_rfl) (by kernel_rfl) (Eq.mp (by kernel_rfl) (H (fun i => ([a0] : List Value).getD i undef) rfl))

/-! ### 19 (*donjon/cache.Cache).Want: params 4, captured 0, results [tmp 8, tmp 9] -/
noncomputable def L19 : List (Option Nat × List Nat) := [(some 0, [0, 1, 2, 3]), (some 3, [0, 1, 2, 3]), (some 5, [0, 1, 2, 3]), (some 7, [0, 1, 2, 3]), (some 9, [0, 1, 2, 3]), (some 12, [0, 1, 2, 3]), (some 16, [0, 1, 2, 3, 12, 13, 14]), (some 17, [0, 1, 2, 3, 12, 13]), (some 24, [0, 1, 2, 3, 12]), (some 19, [0, 1, 2, 3, 12, 13]), (some 27, [0, 1, 2, 12]), (some 22, [0, 1, 2, 3, 12, 13, 16])]
noncomputable def A19_0 (Q : Value → AH → Prop) (t0 t1 t2 t3 : Value) (h : AH) : Prop := Pt Pr K 19 none (retV Pr 19 Q) 135 [0, 1, 2, 3] [.code (cc 19 2), .code (cc 19 3)] [] [t0, t1, t2, t3] h
noncomputable def A19_1 (Q : Value → AH → Prop) (t0 t1 t2 t3 : Value) (h : AH) : Prop := Pt Pr K 19 none (retV Pr 19 Q) 135 [0, 1, 2, 3] [.code (cc 19 102), .code (cc 19 103), .inBlock 0, .code (cc 19 7)] [] [t0, t1, t2, t3] h
noncomputable def A19_2 (Q : Value → AH → Prop) (t0 t1 t2 t3 : Value) (h : AH) : Prop := Pt Pr K 19 none (retV Pr 19 Q) 135 [0, 1, 2, 3] [.code (cc 19 414), .code (cc 19 415), .inBlock 0, .code (cc 19 7)] [] [t0, t1, t2, t3] h
noncomputable def A19_3 (Q : Value → AH → Prop) (t0 t1 t2 t3 : Value) (h : AH) : Prop := Pt Pr K 19 none (retV Pr 19 Q) 135 [0, 1, 2, 3] [.code (cc 19 1662), .code (cc 19 1663), .inBlock 0, .code (cc 19 7)] [] [t0, t1, t2, t3] h
noncomputable def A19_4 (Q : Value → AH → Prop) (t0 t1 t2 t3 : Value) (h : AH) : Prop := Pt Pr K 19 none (retV Pr 19 Q) 135 [0, 1, 2, 3] [.code (cc 19 28), .code (cc 19 29), .code (cc 19 15)] [] [t0, t1, t2, t3] h
noncomputable def A19_5 (Q : Value → AH → Prop) (t0 t1 t2 t3 : Value) (h : AH) : Prop := Pt Pr K 19 none (retV Pr 19 Q) 135 [0, 1, 2, 3] [.code (cc 19 30), .code (cc 19 31)] [] [t0, t1, t2, t3] h
noncomputable def A19_6 (Q : Value → AH → Prop) (t0 t1 t2 t3 t12 t13 t14 : Value) (h : AH) : Prop := Pt Pr K 19 none (retV Pr 19 Q) 135 [0, 1, 2, 3, 12, 13, 14] [.code (cc 19 508), .code (cc 19 509), .code (cc 19 255)] [] [t0, t1, t2, t3, t12, t13, t14] h
noncomputable def A19_7 (Q : Value → AH → Prop) (t0 t1 t2 t3 t12 t13 : Value) (h : AH) : Prop := Pt Pr K 19 none (retV Pr 19 Q) 135 [0, 1, 2, 3, 12, 13] [.code (cc 19 4072), .code (cc 19 4073), .code (cc 19 2037), .code (cc 19 255)] [] [t0, t1, t2, t3, t12, t13] h
noncomputable def A19_8 (Q : Value → AH → Prop) (t0 t1 t2 t3 t12 : Value) (h : AH) : Prop := Pt Pr K 19 none (retV Pr 19 Q) 135 [0, 1, 2, 3, 12] [.code (cc 19 510), .code (cc 19 511)] [] [t0, t1, t2, t3, t12] h
noncomputable def A19_9 (Q : Value → AH → Prop) (t0 t1 t2 t3 t12 t13 : Value) (h : AH) : Prop := Pt Pr K 19 none (retV Pr 19 Q) 135 [0, 1, 2, 3, 12, 13] [.code (cc 19 4074), .code (cc 19 4075), .code (cc 19 255)] [] [t0, t1, t2, t3, t12, t13] h
noncomputable def A19_10 (Q : Value → AH → Prop) (t0 t1 t2 t12 : Value) (h : AH) : Prop := Pt Pr K 19 none (retV Pr 19 Q) 135 [0, 1, 2, 12] [.code (cc 19 8186), .code (cc 19 2047)] [] [t0, t1, t2, t12] h
noncomputable def A19_11 (Q : Value → AH → Prop) (t0 t1 t2 t3 t12 t13 t16 : Value) (h : AH) : Prop := Pt Pr K 19 none (retV Pr 19 Q) 135 [0, 1, 2, 3, 12, 13, 16] [.code (cc 19 16302), .code (cc 19 16303), .code (cc 19 255)] [] [t0, t1, t2, t3, t12, t13, t16] h
theorem b19_0 {h : AH} {Q : Value → AH → Prop} {t0 t1 t2 t3 : Value} (H :
 thn (biP .eql t0 (.pointer none)) fun v0 =>
 Br v0 (
 Q (.tuple ⟨[(.slice none 0 0), (I 2)]⟩) h) (
 A19_1 Q t0 t1 t2 t3 h)
) : A19_0 Q t0 t1 t2 t3 h := by intro e he; cases he; exact bF L19 (by kernel_rfl) H
theorem b19_1 {h : AH} {Q : Value → AH → Prop} {t0 t1 t2 t3 : Value} (H :
 Cl Pr K 42 [t0, t1] h fun v0 h0 => -- (*donjon/cache.Cache).has
 thn (unV .not v0) fun v1 =>
 Br v1 (
 Q (.tuple ⟨[(.slice none 0 0), (I 10)]⟩) h0) (
 A19_2 Q t0 t1 t2 t3 h0)
) : A19_1 Q t0 t1 t2 t3 h := by intro e he; cases he; exact bF L19 (by kernel_rfl) H
theorem b19_2 {h : AH} {Q : Value → AH → Prop} {t0 t1 t2 t3 : Value} (H :
 thn (nilV t0) fun v0 =>
 thn (padd 9 v0) fun v1 =>
 thn (padd 2 v1) fun v2 =>
 thn (ld1 h v2) fun v3 =>
 Br v3 (
 Q (.tuple ⟨[(.slice none 0 0), (I 17)]⟩) h) (
 A19_3 Q t0 t1 t2 t3 h)
) : A19_2 Q t0 t1 t2 t3 h := by intro e he; cases he; exact bF L19 (by kernel_rfl) H
theorem b19_3 {h : AH} {Q : Value → AH → Prop} {t0 t1 t2 t3 : Value} (H :
 thn (nilV t0) fun v0 =>
 thn (padd 12 v0) fun v1 =>
 thn (padd 5 v1) fun v2 =>
 thn (ld1 h v2) fun v3 =>
 Br v3 (
 thn (nilV t0) fun v4 =>
 thn (padd 12 v4) fun v5 =>
 thn (padd 0 v5) fun v6 =>
 thn (ld1 h v6) fun v7 =>
 thn (biI .eql v7 t1) fun v8 =>
 Br v8 (
 Q (.tuple ⟨[(.slice none 0 0), (I 16)]⟩) h) (
 A19_4 Q t0 t1 t2 t3 h)) (
 thn (nilV t0) fun v4 =>
 thn (padd 0 v4) fun v5 =>
 thn (ld1 h v5) fun v6 =>
 Cl Pr K 16 [v6, t1] h fun v7 h7 => -- (*donjon/tags.Cache[donjon/cache.Copy]).Peek
 thn (extV 0 v7) fun v8 =>
 thn (extV 1 v7) fun v9 =>
 alc h7 (.cells [(I 0), (I 0), (I 0), (I 0)] 46 (0, 0) true) fun p11 h10 =>
 thn (stV h10 4 (pt p11 0 0) v8) fun h12 =>
 thn (biI .eql v9 (I 0)) fun v13 =>
 Br v13 (
 thn (ldN h12 4 (pt p11 0 0)) fun v14 =>
 Cl Pr K 44 [v14, t3] h12 fun v15 h15 => -- (donjon/cache.Copy).allows
 Br v15 (
 Q (.tuple ⟨[(.slice none 0 0), (I 13)]⟩) h15) (
 A19_5 Q t0 t1 t2 t3 h15)) (
 thn (nilV t0) fun v14 =>
 thn (padd 0 v14) fun v15 =>
 thn (ld1 h12 v15) fun v16 =>
 Cl Pr K 45 [v16, t1] h12 fun v17 h17 => -- (*donjon/tags.Cache[donjon/cache.Copy]).Victim
 thn (extV 0 v17) fun v18 =>
 thn (extV 1 v17) fun v19 =>
 thn (extV 2 v17) fun v20 =>
 thn (biI .neq v20 (I 0)) fun v21 =>
 Br v21 (
 Q (.tuple ⟨[(.slice none 0 0), v20]⟩) h17) (
 A19_6 Q t0 t1 t2 t3 (.slice none 0 0) v18 v19 h17)))
) : A19_3 Q t0 t1 t2 t3 h := by intro e he; cases he; exact bF L19 (by kernel_rfl) H
theorem b19_4 {h : AH} {Q : Value → AH → Prop} {t0 t1 t2 t3 : Value} (H :
 thn (nilV t0) fun v0 =>
 thn (padd 0 v0) fun v1 =>
 thn (ld1 h v1) fun v2 =>
 Cl Pr K 16 [v2, t1] h fun v3 h3 => -- (*donjon/tags.Cache[donjon/cache.Copy]).Peek
 thn (extV 0 v3) fun v4 =>
 thn (extV 1 v3) fun v5 =>
 alc h3 (.cells [(I 0), (I 0), (I 0), (I 0)] 46 (0, 0) true) fun p7 h6 =>
 thn (stV h6 4 (pt p7 0 0) v4) fun h8 =>
 thn (biI .eql v5 (I 0)) fun v9 =>
 Br v9 (
 thn (ldN h8 4 (pt p7 0 0)) fun v10 =>
 Cl Pr K 44 [v10, t3] h8 fun v11 h11 => -- (donjon/cache.Copy).allows
 Br v11 (
 Q (.tuple ⟨[(.slice none 0 0), (I 13)]⟩) h11) (
 A19_5 Q t0 t1 t2 t3 h11)) (
 thn (nilV t0) fun v10 =>
 thn (padd 0 v10) fun v11 =>
 thn (ld1 h8 v11) fun v12 =>
 Cl Pr K 45 [v12, t1] h8 fun v13 h13 => -- (*donjon/tags.Cache[donjon/cache.Copy]).Victim
 thn (extV 0 v13) fun v14 =>
 thn (extV 1 v13) fun v15 =>
 thn (extV 2 v13) fun v16 =>
 thn (biI .neq v16 (I 0)) fun v17 =>
 Br v17 (
 Q (.tuple ⟨[(.slice none 0 0), v16]⟩) h13) (
 A19_6 Q t0 t1 t2 t3 (.slice none 0 0) v14 v15 h13))
) : A19_4 Q t0 t1 t2 t3 h := by intro e he; cases he; exact bF L19 (by kernel_rfl) H
theorem b19_5 {h : AH} {Q : Value → AH → Prop} {t0 t1 t2 t3 : Value} (H :
 thn (nilV t0) fun v0 =>
 thn (padd 0 v0) fun v1 =>
 thn (ld1 h v1) fun v2 =>
 Cl Pr K 45 [v2, t1] h fun v3 h3 => -- (*donjon/tags.Cache[donjon/cache.Copy]).Victim
 thn (extV 0 v3) fun v4 =>
 thn (extV 1 v3) fun v5 =>
 thn (extV 2 v3) fun v6 =>
 thn (biI .neq v6 (I 0)) fun v7 =>
 Br v7 (
 Q (.tuple ⟨[(.slice none 0 0), v6]⟩) h3) (
 A19_6 Q t0 t1 t2 t3 (.slice none 0 0) v4 v5 h3)
) : A19_5 Q t0 t1 t2 t3 h := by intro e he; cases he; exact bF L19 (by kernel_rfl) H
theorem b19_6 {h : AH} {Q : Value → AH → Prop} {t0 t1 t2 t3 t12 t13 t14 : Value} (H :
 Br t14 (
 A19_7 Q t0 t1 t2 t3 t12 t13 h) (
 A19_8 Q t0 t1 t2 t3 t12 h)
) : A19_6 Q t0 t1 t2 t3 t12 t13 t14 h := by intro e he; cases he; exact bF L19 (by kernel_rfl) H
theorem b19_7 {h : AH} {Q : Value → AH → Prop} {t0 t1 t2 t3 t12 t13 : Value} (H :
 thn (nilV t0) fun v0 =>
 thn (padd 12 v0) fun v1 =>
 thn (padd 5 v1) fun v2 =>
 thn (ld1 h v2) fun v3 =>
 Br v3 (
 Q (.tuple ⟨[(.slice none 0 0), (I 11)]⟩) h) (
 A19_9 Q t0 t1 t2 t3 t12 t13 h)
) : A19_7 Q t0 t1 t2 t3 t12 t13 h := by intro e he; cases he; exact bF L19 (by kernel_rfl) H
theorem b19_8 {h : AH} {Q : Value → AH → Prop} {t0 t1 t2 t3 t12 : Value} (H :
 thn (fillL [(I 0), (.bool false), (.bool false)] [(0, 1, t1), (1, 1, t3), (2, 1, (.bool true))]) fun c0 =>
 thn (nilV t0) fun v1 =>
 thn (padd 9 v1) fun v2 =>
 thn (stV h 3 v2 (.agg ⟨c0⟩)) fun h3 =>
 Br t3 (
 A19_10 Q t0 t1 t2 t12 h3) (
 thn (nilV t0) fun v4 =>
 thn (padd 8 v4) fun v5 =>
 thn (ld1 h3 v5) fun v6 =>
 thn (fillL [(I 0), (I 0), (I 0), (I 0), (I 0), (I 0), (I 0), (.bool false), (I 0)] [(0, 1, (I 1)), (1, 1, v6), (2, 1, t1), (3, 1, t2)]) fun c7 =>
 thn (fillL [(I 0), (I 0), (I 0), (I 0), (I 0), (I 0), (I 0), (.bool false), (I 0)] [(0, 9, (.agg ⟨c7⟩))]) fun l9 =>
 alcS h3 9 26 l9 1 1 fun s10 h8 =>
 thn (appV 9 72 26 h8 t12 s10) fun r11 => (fun v12 h13 =>
 Q (.tuple ⟨[v12, (I 0)]⟩) h13) r11.1 r11.2)
) : A19_8 Q t0 t1 t2 t3 t12 h := by intro e he; cases he; exact bF L19 (by kernel_rfl) H
theorem b19_9 {h : AH} {Q : Value → AH → Prop} {t0 t1 t2 t3 t12 t13 : Value} (H :
 thn (nilV t0) fun v0 =>
 thn (padd 0 v0) fun v1 =>
 thn (ld1 h v1) fun v2 =>
 Cl Pr K 46 [v2, t13] h fun v3 h3 => -- (*donjon/tags.Cache[donjon/cache.Copy]).Drop
 thn (extV 0 v3) fun v4 =>
 thn (extV 1 v3) fun v5 =>
 alc h3 (.cells [(I 0), (I 0), (I 0), (I 0)] 46 (0, 0) true) fun p7 h6 =>
 thn (stV h6 4 (pt p7 0 0) v4) fun h8 =>
 thn (biI .neq v5 (I 0)) fun v9 =>
 Br v9 (
 Q (.tuple ⟨[(.slice none 0 0), v5]⟩) h8) (
 A19_11 Q t0 t1 t2 t3 t12 t13 (pt p7 0 0) h8)
) : A19_9 Q t0 t1 t2 t3 t12 t13 h := by intro e he; cases he; exact bF L19 (by kernel_rfl) H
theorem b19_10 {h : AH} {Q : Value → AH → Prop} {t0 t1 t2 t12 : Value} (H :
 thn (nilV t0) fun v0 =>
 thn (padd 8 v0) fun v1 =>
 thn (ld1 h v1) fun v2 =>
 thn (fillL [(I 0), (I 0), (I 0), (I 0), (I 0), (I 0), (I 0), (.bool false), (I 0)] [(0, 1, (I 2)), (1, 1, v2), (2, 1, t1), (3, 1, t2)]) fun c3 =>
 thn (fillL [(I 0), (I 0), (I 0), (I 0), (I 0), (I 0), (I 0), (.bool false), (I 0)] [(0, 9, (.agg ⟨c3⟩))]) fun l5 =>
 alcS h 9 26 l5 1 1 fun s6 h4 =>
 thn (appV 9 72 26 h4 t12 s6) fun r7 => (fun v8 h9 =>
 Q (.tuple ⟨[v8, (I 0)]⟩) h9) r7.1 r7.2
) : A19_10 Q t0 t1 t2 t12 h := by intro e he; cases he; exact bF L19 (by kernel_rfl) H
theorem b19_11 {h : AH} {Q : Value → AH → Prop} {t0 t1 t2 t3 t12 t13 t16 : Value} (H :
 thn (ldN h 4 t16) fun v0 =>
 thn (fillL [(I 0), (I 0), (I 0), (I 0), (I 0), (.bool false)] [(0, 1, t13), (1, 4, v0), (5, 1, (.bool true))]) fun c1 =>
 thn (nilV t0) fun v2 =>
 thn (padd 12 v2) fun v3 =>
 thn (stV h 6 v3 (.agg ⟨c1⟩)) fun h4 =>
 resv h4 17 fun r6 h5 =>
 thn (nilV t0) fun v7 =>
 thn (padd 8 v7) fun v8 =>
 thn (ld1 h5 v8) fun v9 =>
 thn (padd 1 t16) fun v10 =>
 thn (ld1 h5 v10) fun v11 =>
 thn (padd 2 t16) fun v12 =>
 thn (ldN h5 2 v12) fun v13 =>
 thn (padd 0 t16) fun v14 =>
 thn (ld1 h5 v14) fun v15 =>
 Cl Pr K 47 [v15] h5 fun v16 h16 => -- donjon/moesi.Dirty
 thn (fillL [(I 0), (I 0), (I 0), (I 0), (I 0), (I 0), (I 0), (.bool false), (I 0)] [(0, 1, (I 3)), (1, 1, v9), (2, 1, t13), (3, 1, v11), (5, 2, v13), (7, 1, v16)]) fun c17 =>
 thn (fillL [(I 0), (I 0), (I 0), (I 0), (I 0), (I 0), (I 0), (.bool false), (I 0)] [(0, 9, (.agg ⟨c17⟩))]) fun l19 =>
 alcSAt h16 (r6 + 14) 9 26 l19 1 1 fun s20 h18 =>
 thn (appV 9 72 26 h18 t12 s20) fun r21 => (fun v22 h23 =>
(veq t12 t12 = true) ∧ (
(veq t0 t0 = true) ∧ (
(thn (nilV t0) fun v24 =>
 veq v24 v7 = true) ∧ (
(thn (padd 8 v7) fun v25 =>
 veq v25 v8 = true) ∧ (
(thn (ld1 h18 v8) fun v26 =>
 veq v26 v9 = true) ∧ (
(veq t13 t13 = true) ∧ (
(thn (padd 1 t16) fun v27 =>
 veq v27 v10 = true) ∧ (
(thn (ld1 h18 v10) fun v28 =>
 veq v28 v11 = true) ∧ (
(thn (padd 2 t16) fun v29 =>
 veq v29 v12 = true) ∧ (
(thn (ldN h18 2 v12) fun v30 =>
 veq v30 v13 = true) ∧ (
 thn (fillL [(I 0), (.bool false), (.bool false)] [(0, 1, t1), (1, 1, t3), (2, 1, (.bool true))]) fun c31 =>
 thn (nilV t0) fun v32 =>
 thn (padd 9 v32) fun v33 =>
 thn (stV h23 3 v33 (.agg ⟨c31⟩)) fun h34 =>
 Br t3 (
 A19_10 Q t0 t1 t2 v22 h34) (
 thn (nilV t0) fun v35 =>
 thn (padd 8 v35) fun v36 =>
 thn (ld1 h34 v36) fun v37 =>
 thn (fillL [(I 0), (I 0), (I 0), (I 0), (I 0), (I 0), (I 0), (.bool false), (I 0)] [(0, 1, (I 1)), (1, 1, v37), (2, 1, t1), (3, 1, t2)]) fun c38 =>
 thn (fillL [(I 0), (I 0), (I 0), (I 0), (I 0), (I 0), (I 0), (.bool false), (I 0)] [(0, 9, (.agg ⟨c38⟩))]) fun l40 =>
 alcS h34 9 26 l40 1 1 fun s41 h39 =>
 thn (appV 9 72 26 h39 v22 s41) fun r42 => (fun v43 h44 =>
 Q (.tuple ⟨[v43, (I 0)]⟩) h44) r42.1 r42.2)))))))))))) r21.1 r21.2
) : A19_11 Q t0 t1 t2 t3 t12 t13 t16 h := by intro e he; cases he; exact bF L19 (by kernel_rfl) H
theorem c19 {h : AH} {Q : Value → AH → Prop} {a0 a1 a2 a3 : Value} (H : A19_0 Q a0 a1 a2 a3 h) : Cl Pr K 19 [a0, a1, a2, a3] h Q :=
  ok_enter (by kernel_rfl) (by kernel_rfl) (Eq.mp (by kernel_rfl) (H (fun i => ([a0, a1, a2, a3] : List Value).getD i undef) rfl))

/-! ### 20 (*donjon/cache.Cache).Read: params 4, captured 0, results [tmp 8, tmp 9] -/
noncomputable def L20 : List (Option Nat × List Nat) := [(some 0, [0, 1, 2, 3]), (some 4, [0, 1, 2])]
noncomputable def A20_0 (Q : Value → AH → Prop) (t0 t1 t2 t3 : Value) (h : AH) : Prop := Pt Pr K 20 none (retV Pr 20 Q) 37 [0, 1, 2, 3] [.code (cc 20 2), .code (cc 20 3)] [] [t0, t1, t2, t3] h
noncomputable def A20_1 (Q : Value → AH → Prop) (t0 t1 t2 : Value) (h : AH) : Prop := Pt Pr K 20 none (retV Pr 20 Q) 37 [0, 1, 2] [.code (cc 20 14), .code (cc 20 15)] [] [t0, t1, t2] h
theorem b20_0 {h : AH} {Q : Value → AH → Prop} {t0 t1 t2 t3 : Value} (H :
 Cl Pr K 48 [t0, t1, t2, t3, (.bool false)] h fun v0 h0 => -- (*donjon/cache.Cache).reach
 thn (biI .neq v0 (I 0)) fun v1 =>
 Br v1 (
 Q (.tuple ⟨[(I 0), v0]⟩) h0) (
 A20_1 Q t0 t1 t2 h0)
) : A20_0 Q t0 t1 t2 t3 h := by intro e he; cases he; exact bF L20 (by kernel_rfl) H
theorem b20_1 {h : AH} {Q : Value → AH → Prop} {t0 t1 t2 : Value} (H :
 thn (nilV t0) fun v0 =>
 thn (padd 0 v0) fun v1 =>
 thn (ld1 h v1) fun v2 =>
 Cl Pr K 49 [v2, t1] h fun v3 h3 => -- (*donjon/tags.Cache[donjon/cache.Copy]).Get
 thn (extV 0 v3) fun v4 =>
 thn (extV 1 v3) fun v5 =>
 alc h3 (.cells [(I 0), (I 0), (I 0), (I 0)] 46 (0, 0) true) fun p7 h6 =>
 thn (stV h6 4 (pt p7 0 0) v4) fun h8 =>
 thn (biI .neq v5 (I 0)) fun v9 =>
 Br v9 (
 Q (.tuple ⟨[(I 0), v5]⟩) h8) (
 thn (padd 2 (pt p7 0 0)) fun v10 =>
 thn (idxA 2 1 v10 t2) fun v11 =>
 thn (ld1 h8 v11) fun v12 =>
 Q (.tuple ⟨[v12, (I 0)]⟩) h8)
) : A20_1 Q t0 t1 t2 h := by intro e he; cases he; exact bF L20 (by kernel_rfl) H
theorem c20 {h : AH} {Q : Value → AH → Prop} {a0 a1 a2 a3 : Value} (H : A20_0 Q a0 a1 a2 a3 h) : Cl Pr K 20 [a0, a1, a2, a3] h Q :=
  ok_enter (by kernel_rfl) (by kernel_rfl) (Eq.mp (by kernel_rfl) (H (fun i => ([a0, a1, a2, a3] : List Value).getD i undef) rfl))

/-! ### 21 (*donjon/cache.Cache).Going: params 1, captured 0, results [tmp 2, tmp 3] -/
noncomputable def L21 : List (Option Nat × List Nat) := [(some 0, [0])]
noncomputable def A21_0 (Q : Value → AH → Prop) (t0 : Value) (h : AH) : Prop := Pt Pr K 21 none (retV Pr 21 Q) 16 [0] [.code (cc 21 2), .code (cc 21 3)] [] [t0] h
theorem b21_0 {h : AH} {Q : Value → AH → Prop} {t0 : Value} (H :
 thn (biP .eql t0 (.pointer none)) fun v0 =>
 Br v0 (
 Q (.tuple ⟨[(I 0), (.bool false)]⟩) h) (
 resv h 12 fun r2 h1 =>
 thn (nilV t0) fun v3 =>
 thn (padd 12 v3) fun v4 =>
 thn (padd 0 v4) fun v5 =>
 thn (ld1 h1 v5) fun v6 =>
 thn (nilV t0) fun v7 =>
 thn (padd 12 v7) fun v8 =>
 thn (padd 5 v8) fun v9 =>
 thn (ld1 h1 v9) fun v10 =>
 Q (.tuple ⟨[v6, v10]⟩) h1)
) : A21_0 Q t0 h := by intro e he; cases he; exact bF L21 (by kernel_rfl) H
theorem c21 {h : AH} {Q : Value → AH → Prop} {a0 : Value} (H : A21_0 Q a0 h) : Cl Pr K 21 [a0] h Q :=
  ok_enter (by kernel_rfl) (by kernel_rfl) (Eq.mp (by kernel_rfl) (H (fun i => ([a0] : List Value).getD i undef) rfl))

/-! ### 22 (*donjon/cache.Cache).Write: params 5, captured 0, results [tmp 10] -/
noncomputable def L22 : List (Option Nat × List Nat) := [(some 0, [0, 1, 2, 3, 4]), (some 4, [0, 1, 2, 4]), (some 7, [0, 1, 2, 4, 12]), (some 10, [0, 1, 2, 4, 12])]
noncomputable def A22_0 (Q : Value → AH → Prop) (t0 t1 t2 t3 t4 : Value) (h : AH) : Prop := Pt Pr K 22 none (retV Pr 22 Q) 55 [0, 1, 2, 3, 4] [.code (cc 22 2), .code (cc 22 3)] [] [t0, t1, t2, t3, t4] h
noncomputable def A22_1 (Q : Value → AH → Prop) (t0 t1 t2 t4 : Value) (h : AH) : Prop := Pt Pr K 22 none (retV Pr 22 Q) 55 [0, 1, 2, 4] [.code (cc 22 14), .code (cc 22 15)] [] [t0, t1, t2, t4] h
noncomputable def A22_2 (Q : Value → AH → Prop) (t0 t1 t2 t4 t12 : Value) (h : AH) : Prop := Pt Pr K 22 none (retV Pr 22 Q) 55 [0, 1, 2, 4, 12] [.code (cc 22 124), .code (cc 22 125), .code (cc 22 63)] [] [t0, t1, t2, t4, t12] h
noncomputable def A22_3 (Q : Value → AH → Prop) (t0 t1 t2 t4 t12 : Value) (h : AH) : Prop := Pt Pr K 22 none (retV Pr 22 Q) 55 [0, 1, 2, 4, 12] [.code (cc 22 126), .code (cc 22 127)] [] [t0, t1, t2, t4, t12] h
theorem b22_0 {h : AH} {Q : Value → AH → Prop} {t0 t1 t2 t3 t4 : Value} (H :
 Cl Pr K 48 [t0, t1, t2, t3, (.bool true)] h fun v0 h0 => -- (*donjon/cache.Cache).reach
 thn (biI .neq v0 (I 0)) fun v1 =>
 Br v1 (
 Q v0 h0) (
 A22_1 Q t0 t1 t2 t4 h0)
) : A22_0 Q t0 t1 t2 t3 t4 h := by intro e he; cases he; exact bF L22 (by kernel_rfl) H
theorem b22_1 {h : AH} {Q : Value → AH → Prop} {t0 t1 t2 t4 : Value} (H :
 thn (nilV t0) fun v0 =>
 thn (padd 0 v0) fun v1 =>
 thn (ld1 h v1) fun v2 =>
 Cl Pr K 16 [v2, t1] h fun v3 h3 => -- (*donjon/tags.Cache[donjon/cache.Copy]).Peek
 thn (extV 0 v3) fun v4 =>
 thn (extV 1 v3) fun v5 =>
 alc h3 (.cells [(I 0), (I 0), (I 0), (I 0)] 46 (0, 0) true) fun p7 h6 =>
 thn (stV h6 4 (pt p7 0 0) v4) fun h8 =>
 thn (biI .neq v5 (I 0)) fun v9 =>
 Br v9 (
 Q v5 h8) (
 A22_2 Q t0 t1 t2 t4 (pt p7 0 0) h8)
) : A22_1 Q t0 t1 t2 t4 h := by intro e he; cases he; exact bF L22 (by kernel_rfl) H
theorem b22_2 {h : AH} {Q : Value → AH → Prop} {t0 t1 t2 t4 t12 : Value} (H :
 thn (padd 0 t12) fun v0 =>
 thn (ld1 h v0) fun v1 =>
 Cl Pr K 50 [v1] h fun v2 h2 => -- donjon/moesi.Wrote
 thn (extV 0 v2) fun v3 =>
 thn (extV 1 v2) fun v4 =>
 thn (padd 0 t12) fun v5 =>
 thn (stV h2 1 v5 v3) fun h6 =>
 thn (biI .neq v4 (I 0)) fun v7 =>
 Br v7 (
 Q v4 h6) (
 A22_3 Q t0 t1 t2 t4 t12 h6)
) : A22_2 Q t0 t1 t2 t4 t12 h := by intro e he; cases he; exact bF L22 (by kernel_rfl) H
theorem b22_3 {h : AH} {Q : Value → AH → Prop} {t0 t1 t2 t4 t12 : Value} (H :
 thn (padd 2 t12) fun v0 =>
 thn (idxA 2 1 v0 t2) fun v1 =>
 thn (stV h 1 v1 t4) fun h2 =>
 resv h2 8 fun r4 h3 =>
 thn (nilV t0) fun v5 =>
 thn (padd 0 v5) fun v6 =>
 thn (ld1 h3 v6) fun v7 =>
 thn (ldN h3 4 t12) fun v8 =>
 Cl Pr K 51 [v7, t1, v8] h3 fun v9 h9 => -- (*donjon/tags.Cache[donjon/cache.Copy]).Put
 Q v9 h9
) : A22_3 Q t0 t1 t2 t4 t12 h := by intro e he; cases he; exact bF L22 (by kernel_rfl) H
theorem c22 {h : AH} {Q : Value → AH → Prop} {a0 a1 a2 a3 a4 : Value} (H : A22_0 Q a0 a1 a2 a3 a4 h) : Cl Pr K 22 [a0, a1, a2, a3, a4] h Q :=
  ok_enter (by kernel_rfl) (by kernel_rfl) (Eq.mp (by kernel_rfl) (H (fun i => ([a0, a1, a2, a3, a4] : List Value).getD i undef) rfl))

/-! ### 23 donjon/place.Check: params 1, captured 0, results [tmp 2] -/
noncomputable def L23 : List (Option Nat × List Nat) := [(some 0, [0]), (some 4, [3, 4, 22, 23]), (some 5, [3, 4, 22, 23]), (some 7, []), (some 8, [3, 4, 22, 23])]
noncomputable def A23_0 (Q : Value → AH → Prop) (t0 : Value) (h : AH) : Prop := Pt Pr K 23 none (retV Pr 23 Q) 40 [0] [.code (cc 23 2), .code (cc 23 3)] [] [t0] h
noncomputable def A23_1 (Q : Value → AH → Prop) (t3 t4 t22 t23 : Value) (h : AH) : Prop := Pt Pr K 23 none (retV Pr 23 Q) 40 [3, 4, 22, 23] [.code (cc 23 1768), .code (cc 23 1769), .inLoop (cc 23 884), .inBlock 0, .code (cc 23 111), .inScope (cc 23 6)] [] [t3, t4, t22, t23] h
noncomputable def A23_2 (Q : Value → AH → Prop) (t3 t4 t22 t23 : Value) (h : AH) : Prop := Pt Pr K 23 none (retV Pr 23 Q) 40 [3, 4, 22, 23] [.code (cc 23 28312), .code (cc 23 28313), .inBlock 1, .code (cc 23 7079), .inLoop (cc 23 884), .inBlock 0, .code (cc 23 111), .inScope (cc 23 6)] [] [t3, t4, t22, t23] h
noncomputable def A23_3 (Q : Value → AH → Prop) (h : AH) : Prop := Pt Pr K 23 none (retV Pr 23 Q) 40 [] [.code (cc 23 226508), .code (cc 23 226509), .inBlock 1, .code (cc 23 7079), .inLoop (cc 23 884), .inBlock 0, .code (cc 23 111), .inScope (cc 23 6)] [] [] h
noncomputable def A23_4 (Q : Value → AH → Prop) (t3 t4 t22 t23 : Value) (h : AH) : Prop := Pt Pr K 23 none (retV Pr 23 Q) 40 [3, 4, 22, 23] [.code (cc 23 7079), .inLoop (cc 23 884), .inBlock 0, .code (cc 23 111), .inScope (cc 23 6)] [] [t3, t4, t22, t23] h
theorem b23_0 {h : AH} {Q : Value → AH → Prop} {t0 : Value} (H :
 thn (blkOf 36 t0) fun b1 =>
 alc h b1 fun p2 h0 =>
 thn (padd 0 (pt p2 0 0)) fun v3 =>
 thn (ld1 h0 v3) fun v4 =>
 thn (padd 1 (pt p2 0 0)) fun v5 =>
 thn (ld1 h0 v5) fun v6 =>
 thn (padd 2 (pt p2 0 0)) fun v7 =>
 thn (ld1 h0 v7) fun v8 =>
 thn (padd 3 (pt p2 0 0)) fun v9 =>
 thn (ld1 h0 v9) fun v10 =>
 thn (padd 4 (pt p2 0 0)) fun v11 =>
 thn (ld1 h0 v11) fun v12 =>
 thn (padd 5 (pt p2 0 0)) fun v13 =>
 thn (ld1 h0 v13) fun v14 =>
 thn (padd 6 (pt p2 0 0)) fun v15 =>
 thn (ld1 h0 v15) fun v16 =>
 thn (fillL [(I 0), (I 0), (I 0), (I 0), (I 0), (I 0), (I 0)] [(0, 1, v4), (1, 1, v6), (2, 1, v8), (3, 1, v10), (4, 1, v12), (5, 1, v14), (6, 1, v16)]) fun c17 =>
 alc h0 (.cells [(I 0), (I 0), (I 0), (I 0), (I 0), (I 0), (I 0)] 121 (0, 0) true) fun p19 h18 =>
 thn (stV h18 7 (pt p19 0 0) (.agg ⟨c17⟩)) fun h20 =>
 thn (ldN h20 7 (.pointer (some ⟨0, 0, none⟩))) fun v21 =>
 A23_1 Q (pt p19 0 0) (I 0) v21 (I 0) h20
) : A23_0 Q t0 h := by intro e he; cases he; exact bF L23 (by kernel_rfl) H
theorem b23_1 {h : AH} {Q : Value → AH → Prop} {t3 t4 t22 t23 : Value} (H :
 thn (biI .lss t23 (I 7)) fun v0 =>
 Br v0 (
 A23_2 Q t3 t4 t22 t23 h) (
 Q t4 h)
) : A23_1 Q t3 t4 t22 t23 h := by intro e he; cases he; exact bF L23 (by kernel_rfl) H
theorem b23_2 {h : AH} {Q : Value → AH → Prop} {t3 t4 t22 t23 : Value} (H :
 thn (at1 7 1 t22 t23) fun v0 =>
 thn (idxA 7 1 t3 t23) fun v1 =>
 thn (ld1 h v1) fun v2 =>
 thn (biI .lss v2 (I 1)) fun v3 =>
 Br v3 (
 Q (I 10) h) (
 thn (idxA 7 1 t3 t23) fun v4 =>
 thn (ld1 h v4) fun v5 =>
 thn (biI .gtr v5 v0) fun v6 =>
 Br v6 (
 A23_3 Q  h) (
 A23_4 Q t3 t4 t22 t23 h))
) : A23_2 Q t3 t4 t22 t23 h := by intro e he; cases he; exact bF L23 (by kernel_rfl) H
theorem b23_3 {h : AH} {Q : Value → AH → Prop} (H :
 Q (I 10) h
) : A23_3 Q  h := by intro e _; exact bF L23 (by kernel_rfl) H
theorem b23_4 {h : AH} {Q : Value → AH → Prop} {t3 t4 t22 t23 : Value} (H :
 thn (biI .add t23 (I 1)) fun v0 =>
 A23_1 Q t3 t4 t22 v0 h
) : A23_4 Q t3 t4 t22 t23 h := by intro e he; cases he; exact bF L23 (by kernel_rfl) H
theorem c23 {h : AH} {Q : Value → AH → Prop} {a0 : Value} (H : A23_0 Q a0 h) : Cl Pr K 23 [a0] h Q :=
  ok_enter (by kernel_rfl) (by kernel_rfl) (Eq.mp (by kernel_rfl) (H (fun i => ([a0] : List Value).getD i undef) rfl))

/-! ### 35 donjon/tags.New[donjon/cache.Copy]: params 2, captured 0, results [tmp 4, tmp 5] -/
noncomputable def L35 : List (Option Nat × List Nat) := [(some 0, [0, 1])]
noncomputable def A35_0 (Q : Value → AH → Prop) (t0 t1 : Value) (h : AH) : Prop := Pt Pr K 35 none (retV Pr 35 Q) 25 [0, 1] [.code (cc 35 2), .code (cc 35 3)] [] [t0, t1] h
theorem b35_0 {h : AH} {Q : Value → AH → Prop} {t0 t1 : Value} (H :
 thn (biI .lss t0 (I 1)) fun v0 =>
 Br v0 (
 Q (.tuple ⟨[(.pointer none), (I 10)]⟩) h) (
 thn (biI .gtr t0 (I 8)) fun v1 =>
 Br v1 (
 Q (.tuple ⟨[(.pointer none), (I 10)]⟩) h) (
 thn (biI .lss t1 (I 1)) fun v2 =>
 Br v2 (
 Q (.tuple ⟨[(.pointer none), (I 10)]⟩) h) (
 thn (biI .gtr t1 (I 4)) fun v3 =>
 Br v3 (
 Q (.tuple ⟨[(.pointer none), (I 10)]⟩) h) (
 thn (mkS 24 t0 t0) fun n5 =>
 alcS h 1 114 (zerosA [(.slice none 0 0)] n5.2) n5.1 n5.2 fun s6 h4 =>
 thn (fillL [(I 0), (.slice none 0 0)] [(0, 1, t1), (1, 1, s6)]) fun c7 =>
 thn (blkOf 124 (.agg ⟨c7⟩)) fun b9 =>
 alc h4 b9 fun p10 h8 =>
 Q (.tuple ⟨[(pt p10 0 0), (I 0)]⟩) h8))))
) : A35_0 Q t0 t1 h := by intro e he; cases he; exact bF L35 (by kernel_rfl) H
theorem c35 {h : AH} {Q : Value → AH → Prop} {a0 a1 : Value} (H : A35_0 Q a0 a1 h) : Cl Pr K 35 [a0, a1] h Q :=
  ok_enter (by kernel_rfl) (by kernel_rfl) (Eq.mp (by kernel_rfl) (H (fun i => ([a0, a1] : List Value).getD i undef) rfl))

/-! ### 48 (*donjon/cache.Cache).reach: params 5, captured 0, results [tmp 10] -/
noncomputable def L48 : List (Option Nat × List Nat) := [(some 0, [0, 1, 2, 3, 4]), (some 3, [0, 1, 2, 3, 4]), (some 5, [0, 1, 3, 4])]
noncomputable def A48_0 (Q : Value → AH → Prop) (t0 t1 t2 t3 t4 : Value) (h : AH) : Prop := Pt Pr K 48 none (retV Pr 48 Q) 34 [0, 1, 2, 3, 4] [.code (cc 48 2), .code (cc 48 3)] [] [t0, t1, t2, t3, t4] h
noncomputable def A48_1 (Q : Value → AH → Prop) (t0 t1 t2 t3 t4 : Value) (h : AH) : Prop := Pt Pr K 48 none (retV Pr 48 Q) 34 [0, 1, 2, 3, 4] [.code (cc 48 102), .code (cc 48 103), .inBlock 0, .code (cc 48 7)] [] [t0, t1, t2, t3, t4] h
noncomputable def A48_2 (Q : Value → AH → Prop) (t0 t1 t3 t4 : Value) (h : AH) : Prop := Pt Pr K 48 none (retV Pr 48 Q) 34 [0, 1, 3, 4] [.code (cc 48 414), .code (cc 48 415), .inBlock 0, .code (cc 48 7)] [] [t0, t1, t3, t4] h
theorem b48_0 {h : AH} {Q : Value → AH → Prop} {t0 t1 t2 t3 t4 : Value} (H :
 thn (biP .eql t0 (.pointer none)) fun v0 =>
 Br v0 (
 Q (I 2) h) (
 A48_1 Q t0 t1 t2 t3 t4 h)
) : A48_0 Q t0 t1 t2 t3 t4 h := by intro e he; cases he; exact bF L48 (by kernel_rfl) H
theorem b48_1 {h : AH} {Q : Value → AH → Prop} {t0 t1 t2 t3 t4 : Value} (H :
 Cl Pr K 42 [t0, t1] h fun v0 h0 => -- (*donjon/cache.Cache).has
 thn (unV .not v0) fun v1 =>
 Br v1 (
 Q (I 10) h0) (
 thn (biI .lss t2 (I 0)) fun v2 =>
 Br v2 (
 Q (I 10) h0) (
 thn (biI .geq t2 (I 2)) fun v3 =>
 Br v3 (
 Q (I 10) h0) (
 A48_2 Q t0 t1 t3 t4 h0)))
) : A48_1 Q t0 t1 t2 t3 t4 h := by intro e he; cases he; exact bF L48 (by kernel_rfl) H
theorem b48_2 {h : AH} {Q : Value → AH → Prop} {t0 t1 t3 t4 : Value} (H :
 Cl Pr K 17 [t0, t1, t3, t4] h fun v0 h0 => -- (*donjon/cache.Cache).May
 thn (unV .not v0) fun v1 =>
 Br v1 (
 Q (I 16) h0) (
 Q (I 0) h0)
) : A48_2 Q t0 t1 t3 t4 h := by intro e he; cases he; exact bF L48 (by kernel_rfl) H
theorem c48 {h : AH} {Q : Value → AH → Prop} {a0 a1 a2 a3 a4 : Value} (H : A48_0 Q a0 a1 a2 a3 a4 h) : Cl Pr K 48 [a0, a1, a2, a3, a4] h Q :=
  ok_enter (by kernel_rfl) (by kernel_rfl) (Eq.mp (by kernel_rfl) (H (fun i => ([a0, a1, a2, a3, a4] : List Value).getD i undef) rfl))

end Go.Proofs.YtfkjpjkkjlipiaaDoor
end
