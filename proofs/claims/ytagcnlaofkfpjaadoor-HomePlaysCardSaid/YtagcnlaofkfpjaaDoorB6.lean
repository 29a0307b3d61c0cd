/- A part of the proof. -/
import Derived.Test.YtagcnlaofkfpjaaDoorB5
import Derived.Test.YtagcnlaofkfpjaaDoorB4
import Derived.KernelRfl
section
namespace Go.Proofs.YtagcnlaofkfpjaaDoor
open Go Go.Ab
set_option maxRecDepth 100000
/-! ### 3 donjon/donjonlaw12.HomeOrder: params 2, captured 0, results [tmp 4] -/
noncomputable def L3 : List (Option Nat × List Nat) := [(some 0, [0, 1]), (some 4, [0, 3, 5]), (some 6, [0, 3, 5, 7, 8]), (some 8, [0, 3, 5, 7, 8]), (some 19, [0, 3, 5, 7, 8, 9]), (some 22, [0, 3, 5, 7, 8, 9, 56]), (some 26, [0, 3, 5, 7, 8, 15]), (some 21, [0, 3, 5, 7, 8, 9]), (some 25, [0, 3, 5, 7, 8]), (some 23, [0, 3, 5, 7, 8, 9]), (some 10, [0, 3, 5, 7, 8, 9]), (some 28, [0, 3, 5, 7, 8, 15]), (some 7, [0, 3, 5, 7, 8]), (some 24, [0, 3, 5, 7, 8, 9]), (some 13, [0, 3, 5, 7, 8, 12, 13, 14]), (some 15, [0, 3, 5, 7, 8, 9, 12, 13]), (some 31, [0, 3, 5, 7, 8, 15, 16, 17]), (some 17, [0, 3, 5, 7, 8, 9]), (some 32, [0, 3, 5, 7, 8, 15, 16, 17, 19]), (some 34, [0, 3, 5, 7, 8, 15, 16, 17, 19]), (some 27, [0, 3, 5, 7, 8, 15]), (some 33, [0, 3, 5, 7, 8, 15, 16, 17, 19])]
noncomputable def A3_0 (Q : Value → AH → Prop) (t0 t1 : Value) (h : AH) : Prop := Pt Pr K 3 none (retV Pr 3 Q) 219 [0, 1] [.code (cc 3 2), .code (cc 3 3)] [] [t0, t1] h
noncomputable def A3_1 (Q : Value → AH → Prop) (t0 t3 t5 : Value) (h : AH) : Prop := Pt Pr K 3 none (retV Pr 3 Q) 219 [0, 3, 5] [.code (cc 3 30), .code (cc 3 31)] [] [t0, t3, t5] h
noncomputable def A3_2 (Q : Value → AH → Prop) (t0 t3 t5 t7 t8 : Value) (h : AH) : Prop := Pt Pr K 3 none (retV Pr 3 Q) 219 [0, 3, 5, 7, 8] [.code (cc 3 2000), .code (cc 3 2001), .code (cc 3 1001), .inLoop (cc 3 500), .inBlock 0, .code (cc 3 63)] [] [t0, t3, t5, t7, t8] h
noncomputable def A3_3 (Q : Value → AH → Prop) (t0 t3 t5 t7 t8 : Value) (h : AH) : Prop := Pt Pr K 3 none (retV Pr 3 Q) 219 [0, 3, 5, 7, 8] [.code (cc 3 8008), .code (cc 3 8009), .inBlock 1, .code (cc 3 2003), .inLoop (cc 3 500), .inBlock 0, .code (cc 3 63)] [] [t0, t3, t5, t7, t8] h
noncomputable def A3_4 (Q : Value → AH → Prop) (t0 t3 t5 t7 t8 t9 : Value) (h : AH) : Prop := Pt Pr K 3 none (retV Pr 3 Q) 219 [0, 3, 5, 7, 8, 9] [.code (cc 3 512596), .code (cc 3 512597), .inBlock 2, .code (cc 3 16019), .inBlock 1, .code (cc 3 2003), .inLoop (cc 3 500), .inBlock 0, .code (cc 3 63)] [] [t0, t3, t5, t7, t8, t9] h
noncomputable def A3_5 (Q : Value → AH → Prop) (t0 t3 t5 t7 t8 t9 t56 : Value) (h : AH) : Prop := Pt Pr K 3 none (retV Pr 3 Q) 219 [0, 3, 5, 7, 8, 9, 56] [.code (cc 3 512598), .code (cc 3 512599), .inBlock 2, .code (cc 3 16019), .inBlock 1, .code (cc 3 2003), .inLoop (cc 3 500), .inBlock 0, .code (cc 3 63)] [] [t0, t3, t5, t7, t8, t9, t56] h
noncomputable def A3_6 (Q : Value → AH → Prop) (t0 t3 t5 t7 t8 t15 : Value) (h : AH) : Prop := Pt Pr K 3 none (retV Pr 3 Q) 219 [0, 3, 5, 7, 8, 15] [.code (cc 3 512624), .code (cc 3 512625), .code (cc 3 256313), .inLoop (cc 3 128156), .inBlock 3, .inBlock 1, .code (cc 3 2003), .inLoop (cc 3 500), .inBlock 0, .code (cc 3 63)] [] [t0, t3, t5, t7, t8, t15] h
noncomputable def A3_7 (Q : Value → AH → Prop) (t0 t3 t5 t7 t8 t9 : Value) (h : AH) : Prop := Pt Pr K 3 none (retV Pr 3 Q) 219 [0, 3, 5, 7, 8, 9] [.code (cc 3 2050390), .inBlock 2, .code (cc 3 16019), .inBlock 1, .code (cc 3 2003), .inLoop (cc 3 500), .inBlock 0, .code (cc 3 63)] [] [t0, t3, t5, t7, t8, t9] h
noncomputable def A3_8 (Q : Value → AH → Prop) (t0 t3 t5 t7 t8 : Value) (h : AH) : Prop := Pt Pr K 3 none (retV Pr 3 Q) 219 [0, 3, 5, 7, 8] [.code (cc 3 32038), .code (cc 3 32039), .inBlock 1, .code (cc 3 2003), .inLoop (cc 3 500), .inBlock 0, .code (cc 3 63)] [] [t0, t3, t5, t7, t8] h
noncomputable def A3_9 (Q : Value → AH → Prop) (t0 t3 t5 t7 t8 t9 : Value) (h : AH) : Prop := Pt Pr K 3 none (retV Pr 3 Q) 219 [0, 3, 5, 7, 8, 9] [.code (cc 3 2050396), .code (cc 3 2050397), .inBlock 2, .code (cc 3 16019), .inBlock 1, .code (cc 3 2003), .inLoop (cc 3 500), .inBlock 0, .code (cc 3 63)] [] [t0, t3, t5, t7, t8, t9] h
noncomputable def A3_10 (Q : Value → AH → Prop) (t0 t3 t5 t7 t8 t9 : Value) (h : AH) : Prop := Pt Pr K 3 none (retV Pr 3 Q) 219 [0, 3, 5, 7, 8, 9] [.code (cc 3 2050398), .code (cc 3 2050399), .inBlock 2, .code (cc 3 16019), .inBlock 1, .code (cc 3 2003), .inLoop (cc 3 500), .inBlock 0, .code (cc 3 63)] [] [t0, t3, t5, t7, t8, t9] h
noncomputable def A3_11 (Q : Value → AH → Prop) (t0 t3 t5 t7 t8 t15 : Value) (h : AH) : Prop := Pt Pr K 3 none (retV Pr 3 Q) 219 [0, 3, 5, 7, 8, 15] [.code (cc 3 2050504), .code (cc 3 2050505), .inBlock 4, .code (cc 3 512627), .inLoop (cc 3 128156), .inBlock 3, .inBlock 1, .code (cc 3 2003), .inLoop (cc 3 500), .inBlock 0, .code (cc 3 63)] [] [t0, t3, t5, t7, t8, t15] h
noncomputable def A3_12 (Q : Value → AH → Prop) (t0 t3 t5 t7 t8 : Value) (h : AH) : Prop := Pt Pr K 3 none (retV Pr 3 Q) 219 [0, 3, 5, 7, 8] [.code (cc 3 2003), .inLoop (cc 3 500), .inBlock 0, .code (cc 3 63)] [] [t0, t3, t5, t7, t8] h
noncomputable def A3_13 (Q : Value → AH → Prop) (t0 t3 t5 t7 t8 t9 : Value) (h : AH) : Prop := Pt Pr K 3 none (retV Pr 3 Q) 219 [0, 3, 5, 7, 8, 9] [.code (cc 3 4100794), .inBlock 2, .code (cc 3 16019), .inBlock 1, .code (cc 3 2003), .inLoop (cc 3 500), .inBlock 0, .code (cc 3 63)] [] [t0, t3, t5, t7, t8, t9] h
noncomputable def A3_14 (Q : Value → AH → Prop) (t0 t3 t5 t7 t8 t12 t13 t14 : Value) (h : AH) : Prop := Pt Pr K 3 none (retV Pr 3 Q) 219 [0, 3, 5, 7, 8, 12, 13, 14] [.code (cc 3 131225576), .code (cc 3 131225577), .code (cc 3 65612789), .code (cc 3 8201599), .inBlock 2, .code (cc 3 16019), .inBlock 1, .code (cc 3 2003), .inLoop (cc 3 500), .inBlock 0, .code (cc 3 63)] [] [t0, t3, t5, t7, t8, t12, t13, t14] h
noncomputable def A3_15 (Q : Value → AH → Prop) (t0 t3 t5 t7 t8 t9 t12 t13 : Value) (h : AH) : Prop := Pt Pr K 3 none (retV Pr 3 Q) 219 [0, 3, 5, 7, 8, 9, 12, 13] [.code (cc 3 32806396), .code (cc 3 32806397), .code (cc 3 16403199), .inBlock 2, .code (cc 3 16019), .inBlock 1, .code (cc 3 2003), .inLoop (cc 3 500), .inBlock 0, .code (cc 3 63)] [] [t0, t3, t5, t7, t8, t9, t12, t13] h
noncomputable def A3_16 (Q : Value → AH → Prop) (t0 t3 t5 t7 t8 t15 t16 t17 : Value) (h : AH) : Prop := Pt Pr K 3 none (retV Pr 3 Q) 219 [0, 3, 5, 7, 8, 15, 16, 17] [.code (cc 3 8202022), .code (cc 3 8202023), .inBlock 4, .code (cc 3 512627), .inLoop (cc 3 128156), .inBlock 3, .inBlock 1, .code (cc 3 2003), .inLoop (cc 3 500), .inBlock 0, .code (cc 3 63)] [] [t0, t3, t5, t7, t8, t15, t16, t17] h
noncomputable def A3_17 (Q : Value → AH → Prop) (t0 t3 t5 t7 t8 t9 : Value) (h : AH) : Prop := Pt Pr K 3 none (retV Pr 3 Q) 219 [0, 3, 5, 7, 8, 9] [.code (cc 3 16403199), .inBlock 2, .code (cc 3 16019), .inBlock 1, .code (cc 3 2003), .inLoop (cc 3 500), .inBlock 0, .code (cc 3 63)] [] [t0, t3, t5, t7, t8, t9] h
noncomputable def A3_18 (Q : Value → AH → Prop) (t0 t3 t5 t7 t8 t15 t16 t17 t19 : Value) (h : AH) : Prop := Pt Pr K 3 none (retV Pr 3 Q) 219 [0, 3, 5, 7, 8, 15, 16, 17, 19] [.code (cc 3 131232368), .code (cc 3 131232369), .code (cc 3 65616185), .inLoop (cc 3 32808092), .inBlock 5, .inBlock 4, .code (cc 3 512627), .inLoop (cc 3 128156), .inBlock 3, .inBlock 1, .code (cc 3 2003), .inLoop (cc 3 500), .inBlock 0, .code (cc 3 63)] [] [t0, t3, t5, t7, t8, t15, t16, t17, t19] h
noncomputable def A3_19 (Q : Value → AH → Prop) (t0 t3 t5 t7 t8 t15 t16 t17 t19 : Value) (h : AH) : Prop := Pt Pr K 3 none (retV Pr 3 Q) 219 [0, 3, 5, 7, 8, 15, 16, 17, 19] [.code (cc 3 524929480), .code (cc 3 524929481), .inBlock 6, .code (cc 3 131232371), .inLoop (cc 3 32808092), .inBlock 5, .inBlock 4, .code (cc 3 512627), .inLoop (cc 3 128156), .inBlock 3, .inBlock 1, .code (cc 3 2003), .inLoop (cc 3 500), .inBlock 0, .code (cc 3 63)] [] [t0, t3, t5, t7, t8, t15, t16, t17, t19] h
noncomputable def A3_20 (Q : Value → AH → Prop) (t0 t3 t5 t7 t8 t15 : Value) (h : AH) : Prop := Pt Pr K 3 none (retV Pr 3 Q) 219 [0, 3, 5, 7, 8, 15] [.code (cc 3 512627), .inLoop (cc 3 128156), .inBlock 3, .inBlock 1, .code (cc 3 2003), .inLoop (cc 3 500), .inBlock 0, .code (cc 3 63)] [] [t0, t3, t5, t7, t8, t15] h
noncomputable def A3_21 (Q : Value → AH → Prop) (t0 t3 t5 t7 t8 t15 t16 t17 t19 : Value) (h : AH) : Prop := Pt Pr K 3 none (retV Pr 3 Q) 219 [0, 3, 5, 7, 8, 15, 16, 17, 19] [.code (cc 3 131232371), .inLoop (cc 3 32808092), .inBlock 5, .inBlock 4, .code (cc 3 512627), .inLoop (cc 3 128156), .inBlock 3, .inBlock 1, .code (cc 3 2003), .inLoop (cc 3 500), .inBlock 0, .code (cc 3 63)] [] [t0, t3, t5, t7, t8, t15, t16, t17, t19] h
theorem b3_0 {h : AH} {Q : Value → AH → Prop} {t0 t1 : Value} (H :
 thn (blkOf 24 t1) fun b1 =>
 alc h b1 fun p2 h0 =>
 Cl Pr K 8 [] h0 fun v3 h3 => -- donjon/donjonlaw12.small
 Cl Pr K 7 [v3] h3 fun v4 h4 => -- donjon/home.New
 thn (extV 0 v4) fun v5 =>
 thn (extV 1 v4) fun v6 =>
 thn (biP .eql v5 (.pointer none)) fun v7 =>
 Br v7 (
 thn (biP .neq v5 (.pointer none)) fun v8 =>
 Br v8 (
 thn (biI .eql v6 (I 0)) fun v9 =>
 Br v9 (
 Cl Pr K 9 [] h4 fun v10 h10 => -- donjon/donjonlaw12.awake
 Q v10 h10) (
 Q (.bool false) h4)) (
 Q (.bool false) h4)) (
 thn (biI .neq v6 (I 0)) fun v8 =>
 Br v8 (
 thn (biP .neq v5 (.pointer none)) fun v9 =>
 Br v9 (
 thn (biI .eql v6 (I 0)) fun v10 =>
 Br v10 (
 Cl Pr K 9 [] h4 fun v11 h11 => -- donjon/donjonlaw12.awake
 Q v11 h11) (
 Q (.bool false) h4)) (
 Q (.bool false) h4)) (
 thn (lenS t0) fun v9 =>
 thn (biI .gtr v9 (I 80)) fun v10 =>
 Br v10 (
 thn (biP .neq v5 (.pointer none)) fun v11 =>
 Br v11 (
 thn (biI .eql v6 (I 0)) fun v12 =>
 Br v12 (
 Cl Pr K 9 [] h4 fun v13 h13 => -- donjon/donjonlaw12.awake
 Q v13 h13) (
 Q (.bool false) h4)) (
 Q (.bool false) h4)) (
 A3_1 Q t0 (pt p2 0 0) v5 h4)))
) : A3_0 Q t0 t1 h := by intro e he; cases he; exact bF L3 (by kernel_rfl) H
theorem b3_1 {h : AH} {Q : Value → AH → Prop} {t0 t3 t5 : Value} (H :
 alc h (.cells [(.slice none 0 0), (.slice none 0 0), (.slice none 0 0), (.slice none 0 0)] 34 (0, 0) true) fun p1 h0 =>
 A3_2 Q t0 t3 t5 (pt p1 0 0) (I 0) h0
) : A3_1 Q t0 t3 t5 h := by intro e he; cases he; exact bF L3 (by kernel_rfl) H
theorem b3_2 {h : AH} {Q : Value → AH → Prop} {t0 t3 t5 t7 t8 : Value} (H :
 thn (lenS t0) fun v0 =>
 thn (biI .lss t8 v0) fun v1 =>
 Br v1 (
 A3_3 Q t0 t3 t5 t7 t8 h) (
 Cl Pr K 9 [] h fun v2 h2 => -- donjon/donjonlaw12.awake
 Q v2 h2)
) : A3_2 Q t0 t3 t5 t7 t8 h := by intro e he; cases he; exact bF L3 (by kernel_rfl) H
theorem b3_3 {h : AH} {Q : Value → AH → Prop} {t0 t3 t5 t7 t8 : Value} (H :
 thn (idxS 11 t0 t8) fun v0 =>
 thn (ldN h 11 v0) fun v1 =>
 alc h (.cells [(I 0), (I 0), (I 0), (I 0), (I 0), (I 0), (I 0), (I 0), (.bool false), (I 0), (I 0)] 40 (0, 0) true) fun p3 h2 =>
 thn (stV h2 11 (pt p3 0 0) v1) fun h4 =>
 thn (padd 0 (pt p3 0 0)) fun v5 =>
 thn (ld1 h4 v5) fun v6 =>
 thn (biI .eql v6 (I 0)) fun v7 =>
 Br v7 (
 A3_4 Q t0 t3 t5 t7 t8 (pt p3 0 0) h4) (
 A3_5 Q t0 t3 t5 t7 t8 (pt p3 0 0) v6 h4)
) : A3_3 Q t0 t3 t5 t7 t8 h := by intro e he; cases he; exact bF L3 (by kernel_rfl) H
theorem b3_4 {h : AH} {Q : Value → AH → Prop} {t0 t3 t5 t7 t8 t9 : Value} (H :
 thn (padd 1 t9) fun v0 =>
 thn (ldN h 9 v0) fun v1 =>
 Cl Pr K 10 [t5, v1] h fun v2 h2 => -- (*donjon/home.Home).Take
 thn (extV 0 v2) fun v3 =>
 thn (extV 1 v2) fun v4 =>
 thn (biI .eql v4 (I 0)) fun v5 =>
 Br v5 (
 thn (padd 1 t9) fun v6 =>
 thn (padd 0 v6) fun v7 =>
 thn (ld1 h2 v7) fun v8 =>
 thn (biI .eql v8 (I 1)) fun v9 =>
 Br v9 (
 resv h2 14 fun r11 h10 =>
 thn (padd 1 t9) fun v12 =>
 thn (padd 2 v12) fun v13 =>
 thn (ld1 h10 v13) fun v14 =>
 thn (padd 1 t9) fun v15 =>
 thn (padd 2 v15) fun v16 =>
 thn (ld1 h10 v16) fun v17 =>
 thn (idxA 4 1 t7 v17) fun v18 =>
 thn (ld1 h10 v18) fun v19 =>
 thn (padd 1 t9) fun v20 =>
 thn (ldN h10 9 v20) fun v21 =>
 thn (fillL [(I 0), (I 0), (I 0), (I 0), (I 0), (I 0), (I 0), (.bool false), (I 0)] [(0, 9, v21)]) fun l23 =>
 alcSAt h10 (r11 + 10) 9 38 l23 1 1 fun s24 h22 =>
 thn (appV 9 72 38 h22 v19 s24) fun r25 => (fun v26 h27 =>
 thn (idxA 4 1 t7 v14) fun v28 =>
 thn (stV h27 1 v28 v26) fun h29 =>
(thn (padd 1 t9) fun v30 =>
 veq v30 v12 = true) ∧ (
(thn (padd 2 v12) fun v31 =>
 veq v31 v13 = true) ∧ (
(thn (ld1 h27 v13) fun v32 =>
 veq v32 v14 = true) ∧ (
 A3_6 Q t0 t3 t5 t7 t8 (I 0) h29)))) r25.1 r25.2) (
 thn (padd 1 t9) fun v10 =>
 thn (padd 0 v10) fun v11 =>
 thn (ld1 h2 v11) fun v12 =>
 thn (biI .eql v12 (I 2)) fun v13 =>
 Br v13 (
 resv h2 14 fun r15 h14 =>
 thn (padd 1 t9) fun v16 =>
 thn (padd 2 v16) fun v17 =>
 thn (ld1 h14 v17) fun v18 =>
 thn (padd 1 t9) fun v19 =>
 thn (padd 2 v19) fun v20 =>
 thn (ld1 h14 v20) fun v21 =>
 thn (idxA 4 1 t7 v21) fun v22 =>
 thn (ld1 h14 v22) fun v23 =>
 thn (padd 1 t9) fun v24 =>
 thn (ldN h14 9 v24) fun v25 =>
 thn (fillL [(I 0), (I 0), (I 0), (I 0), (I 0), (I 0), (I 0), (.bool false), (I 0)] [(0, 9, v25)]) fun l27 =>
 alcSAt h14 (r15 + 10) 9 38 l27 1 1 fun s28 h26 =>
 thn (appV 9 72 38 h26 v23 s28) fun r29 => (fun v30 h31 =>
 thn (idxA 4 1 t7 v18) fun v32 =>
 thn (stV h31 1 v32 v30) fun h33 =>
(thn (padd 1 t9) fun v34 =>
 veq v34 v16 = true) ∧ (
(thn (padd 2 v16) fun v35 =>
 veq v35 v17 = true) ∧ (
(thn (ld1 h31 v17) fun v36 =>
 veq v36 v18 = true) ∧ (
 A3_6 Q t0 t3 t5 t7 t8 (I 0) h33)))) r29.1 r29.2) (
 thn (padd 1 t9) fun v14 =>
 thn (padd 0 v14) fun v15 =>
 thn (ld1 h2 v15) fun v16 =>
 thn (biI .eql v16 (I 3)) fun v17 =>
 Br v17 (
 A3_7 Q t0 t3 t5 t7 t8 t9 h2) (
 A3_8 Q t0 t3 t5 t7 t8 h2)))) (
 A3_6 Q t0 t3 t5 t7 t8 (I 0) h2)
) : A3_4 Q t0 t3 t5 t7 t8 t9 h := by intro e he; cases he; exact bF L3 (by kernel_rfl) H
theorem b3_5 {h : AH} {Q : Value → AH → Prop} {t0 t3 t5 t7 t8 t9 t56 : Value} (H :
 thn (biI .eql t56 (I 1)) fun v0 =>
 Br v0 (
 A3_9 Q t0 t3 t5 t7 t8 t9 h) (
 A3_10 Q t0 t3 t5 t7 t8 t9 h)
) : A3_5 Q t0 t3 t5 t7 t8 t9 t56 h := by intro e he; cases he; exact bF L3 (by kernel_rfl) H
theorem b3_6 {h : AH} {Q : Value → AH → Prop} {t0 t3 t5 t7 t8 t15 : Value} (H :
 thn (biI .lss t15 (I 4)) fun v0 =>
 Br v0 (
 A3_11 Q t0 t3 t5 t7 t8 t15 h) (
 A3_12 Q t0 t3 t5 t7 t8 h)
) : A3_6 Q t0 t3 t5 t7 t8 t15 h := by intro e he; cases he; exact bF L3 (by kernel_rfl) H
theorem b3_7 {h : AH} {Q : Value → AH → Prop} {t0 t3 t5 t7 t8 t9 : Value} (H :
 resv h 14 fun r1 h0 =>
 thn (padd 1 t9) fun v2 =>
 thn (padd 2 v2) fun v3 =>
 thn (ld1 h0 v3) fun v4 =>
 thn (padd 1 t9) fun v5 =>
 thn (padd 2 v5) fun v6 =>
 thn (ld1 h0 v6) fun v7 =>
 thn (idxA 4 1 t7 v7) fun v8 =>
 thn (ld1 h0 v8) fun v9 =>
 thn (padd 1 t9) fun v10 =>
 thn (ldN h0 9 v10) fun v11 =>
 thn (fillL [(I 0), (I 0), (I 0), (I 0), (I 0), (I 0), (I 0), (.bool false), (I 0)] [(0, 9, v11)]) fun l13 =>
 alcSAt h0 (r1 + 10) 9 38 l13 1 1 fun s14 h12 =>
 thn (appV 9 72 38 h12 v9 s14) fun r15 => (fun v16 h17 =>
 thn (idxA 4 1 t7 v4) fun v18 =>
 thn (stV h17 1 v18 v16) fun h19 =>
(thn (padd 1 t9) fun v20 =>
 veq v20 v2 = true) ∧ (
(thn (padd 2 v2) fun v21 =>
 veq v21 v3 = true) ∧ (
(thn (ld1 h17 v3) fun v22 =>
 veq v22 v4 = true) ∧ (
 A3_6 Q t0 t3 t5 t7 t8 (I 0) h19)))) r15.1 r15.2
) : A3_7 Q t0 t3 t5 t7 t8 t9 h := by intro e he; cases he; exact bF L3 (by kernel_rfl) H
theorem b3_8 {h : AH} {Q : Value → AH → Prop} {t0 t3 t5 t7 t8 : Value} (H :
 A3_6 Q t0 t3 t5 t7 t8 (I 0) h
) : A3_8 Q t0 t3 t5 t7 t8 h := by intro e he; cases he; exact bF L3 (by kernel_rfl) H
theorem b3_9 {h : AH} {Q : Value → AH → Prop} {t0 t3 t5 t7 t8 t9 : Value} (H :
 thn (padd 10 t9) fun v0 =>
 thn (ld1 h v0) fun v1 =>
 Cl Pr K 11 [t5, v1] h fun v2 h2 => -- (*donjon/home.Home).Sweep
 thn (biI .eql v2 (I 0)) fun v3 =>
 Br v3 (
 A3_13 Q t0 t3 t5 t7 t8 t9 h2) (
 A3_8 Q t0 t3 t5 t7 t8 h2)
) : A3_9 Q t0 t3 t5 t7 t8 t9 h := by intro e he; cases he; exact bF L3 (by kernel_rfl) H
theorem b3_10 {h : AH} {Q : Value → AH → Prop} {t0 t3 t5 t7 t8 t9 : Value} (H :
 thn (padd 10 t9) fun v0 =>
 thn (ld1 h v0) fun v1 =>
 Cl Pr K 12 [t5, v1] h fun v2 h2 => -- (*donjon/home.Home).Busy
 thn (padd 10 t9) fun v3 =>
 thn (ld1 h2 v3) fun v4 =>
 thn (ldN h2 1 t3) fun v5 =>
 Cl Pr K 13 [t5, v4, (.iface 24 v5)] h2 fun v6 h6 => -- (*donjon/home.Home).Begin
 thn (extV 0 v6) fun v7 =>
 thn (extV 1 v6) fun v8 =>
 thn (biI .neq v8 (I 0)) fun v9 =>
 Br v9 (
 A3_14 Q t0 t3 t5 t7 t8 v2 v7 v8 h6) (
 A3_15 Q t0 t3 t5 t7 t8 t9 v2 v7 h6)
) : A3_10 Q t0 t3 t5 t7 t8 t9 h := by intro e he; cases he; exact bF L3 (by kernel_rfl) H
theorem b3_11 {h : AH} {Q : Value → AH → Prop} {t0 t3 t5 t7 t8 t15 : Value} (H :
 Cl Pr K 15 [t5, t15] h fun v0 h0 => -- (*donjon/home.Home).Who
 thn (extV 0 v0) fun v1 =>
 thn (extV 1 v0) fun v2 =>
 thn (extV 2 v0) fun v3 =>
 resv h0 8 fun r5 h4 =>
 Cl Pr K 16 [t5, t15] h4 fun v6 h6 => -- (*donjon/home.Home).Waits
 thn (idxA 4 1 t7 t15) fun v7 =>
 thn (ld1 h6 v7) fun v8 =>
 thn (lenS v8) fun v9 =>
 thn (biI .neq v6 v9) fun v10 =>
(veq t15 t15 = true) ∧ (
(thn (idxA 4 1 t7 t15) fun v11 =>
 veq v11 v7 = true) ∧ (
(thn (ld1 h4 v7) fun v12 =>
 veq v12 v8 = true) ∧ (
(thn (lenS v8) fun v13 =>
 veq v13 v9 = true) ∧ (
 Br v10 (
 Q (.bool false) h6) (
 A3_16 Q t0 t3 t5 t7 t8 t15 v1 v2 h6)))))
) : A3_11 Q t0 t3 t5 t7 t8 t15 h := by intro e he; cases he; exact bF L3 (by kernel_rfl) H
theorem b3_12 {h : AH} {Q : Value → AH → Prop} {t0 t3 t5 t7 t8 : Value} (H :
 thn (biI .add t8 (I 1)) fun v0 =>
 A3_2 Q t0 t3 t5 t7 v0 h
) : A3_12 Q t0 t3 t5 t7 t8 h := by intro e he; cases he; exact bF L3 (by kernel_rfl) H
theorem b3_13 {h : AH} {Q : Value → AH → Prop} {t0 t3 t5 t7 t8 t9 : Value} (H :
 resv h 13 fun r1 h0 =>
 thn (padd 10 t9) fun v2 =>
 thn (ld1 h0 v2) fun v3 =>
 thn (padd 10 t9) fun v4 =>
 thn (ld1 h0 v4) fun v5 =>
 thn (idxA 4 1 t7 v5) fun v6 =>
 thn (ld1 h0 v6) fun v7 =>
 thn (padd 10 t9) fun v8 =>
 thn (ld1 h0 v8) fun v9 =>
 thn (fillL [(I 0), (I 0), (I 0), (I 0), (I 0), (I 0), (I 0), (.bool false), (I 0)] [(1, 1, (I (-1))), (2, 1, v9)]) fun c10 =>
 thn (fillL [(I 0), (I 0), (I 0), (I 0), (I 0), (I 0), (I 0), (.bool false), (I 0)] [(0, 9, (.agg ⟨c10⟩))]) fun l12 =>
 alcSAt h0 (r1 + 9) 9 38 l12 1 1 fun s13 h11 =>
 thn (appV 9 72 38 h11 v7 s13) fun r14 => (fun v15 h16 =>
 thn (idxA 4 1 t7 v3) fun v17 =>
 thn (stV h16 1 v17 v15) fun h18 =>
(thn (padd 10 t9) fun v19 =>
 veq v19 v2 = true) ∧ (
(thn (ld1 h16 v2) fun v20 =>
 veq v20 v3 = true) ∧ (
 A3_6 Q t0 t3 t5 t7 t8 (I 0) h18))) r14.1 r14.2
) : A3_13 Q t0 t3 t5 t7 t8 t9 h := by intro e he; cases he; exact bF L3 (by kernel_rfl) H
theorem b3_14 {h : AH} {Q : Value → AH → Prop} {t0 t3 t5 t7 t8 t12 t13 t14 : Value} (H :
 thn (lenS t13) fun v0 =>
 thn (biI .neq v0 (I 0)) fun v1 =>
 Br v1 (
 Q (.bool false) h) (
 Br t12 (
 thn (biI .neq t14 (I 16)) fun v2 =>
 Br v2 (
 Q (.bool false) h) (
 A3_12 Q t0 t3 t5 t7 t8 h)) (
 thn (biI .add t8 (I 1)) fun v2 =>
 A3_2 Q t0 t3 t5 t7 v2 h))
) : A3_14 Q t0 t3 t5 t7 t8 t12 t13 t14 h := by intro e he; cases he; exact bF L3 (by kernel_rfl) H
theorem b3_15 {h : AH} {Q : Value → AH → Prop} {t0 t3 t5 t7 t8 t9 t12 t13 : Value} (H :
 Br t12 (
 Q (.bool false) h) (
 thn (padd 10 t9) fun v0 =>
 thn (ld1 h v0) fun v1 =>
 thn (idxA 4 1 t7 v1) fun v2 =>
 thn (ld1 h v2) fun v3 =>
 thn (lenS v3) fun v4 =>
 thn (biI .eql v4 (I 0)) fun v5 =>
 Br v5 (
 Q (.bool false) h) (
 thn (padd 10 t9) fun v6 =>
 thn (ld1 h v6) fun v7 =>
 thn (idxA 4 1 t7 v7) fun v8 =>
 thn (ld1 h v8) fun v9 =>
 thn (idxS 9 v9 (I 0)) fun v10 =>
 thn (ldN h 9 v10) fun v11 =>
 Cl Pr K 14 [v11, t13] h fun v12 h12 => -- donjon/donjonlaw12.serves
 thn (unV .not v12) fun v13 =>
 Br v13 (
 Q (.bool false) h12) (
 A3_17 Q t0 t3 t5 t7 t8 t9 h12)))
) : A3_15 Q t0 t3 t5 t7 t8 t9 t12 t13 h := by intro e he; cases he; exact bF L3 (by kernel_rfl) H
theorem b3_16 {h : AH} {Q : Value → AH → Prop} {t0 t3 t5 t7 t8 t15 t16 t17 : Value} (H :
 A3_18 Q t0 t3 t5 t7 t8 t15 t16 t17 (I 0) h
) : A3_16 Q t0 t3 t5 t7 t8 t15 t16 t17 h := by intro e he; cases he; exact bF L3 (by kernel_rfl) H
theorem b3_17 {h : AH} {Q : Value → AH → Prop} {t0 t3 t5 t7 t8 t9 : Value} (H :
 resv h 9 fun r1 h0 =>
 thn (padd 10 t9) fun v2 =>
 thn (ld1 h0 v2) fun v3 =>
 thn (padd 10 t9) fun v4 =>
 thn (ld1 h0 v4) fun v5 =>
 thn (idxA 4 1 t7 v5) fun v6 =>
 thn (ld1 h0 v6) fun v7 =>
 thn (slS 9 h0 v7 (some (I 1)) none none) fun v8 =>
 thn (idxA 4 1 t7 v3) fun v9 =>
 thn (stV h0 1 v9 v8) fun h10 =>
 A3_6 Q t0 t3 t5 t7 t8 (I 0) h10
) : A3_17 Q t0 t3 t5 t7 t8 t9 h := by intro e he; cases he; exact bF L3 (by kernel_rfl) H
theorem b3_18 {h : AH} {Q : Value → AH → Prop} {t0 t3 t5 t7 t8 t15 t16 t17 t19 : Value} (H :
 thn (lenS t17) fun v0 =>
 thn (biI .lss t19 v0) fun v1 =>
 Br v1 (
 A3_19 Q t0 t3 t5 t7 t8 t15 t16 t17 t19 h) (
 A3_20 Q t0 t3 t5 t7 t8 t15 h)
) : A3_18 Q t0 t3 t5 t7 t8 t15 t16 t17 t19 h := by intro e he; cases he; exact bF L3 (by kernel_rfl) H
theorem b3_19 {h : AH} {Q : Value → AH → Prop} {t0 t3 t5 t7 t8 t15 t16 t17 t19 : Value} (H :
 resv h 22 fun r1 h0 =>
 thn (idxS 1 t17 t19) fun v2 =>
 thn (ld1 h0 v2) fun v3 =>
 thn (biI .eql v3 t16) fun v4 =>
 Br v4 (
 Q (.bool false) h0) (
 thn (biI .gtr t19 (I 0)) fun v5 =>
 Br v5 (
 thn (idxS 1 t17 t19) fun v6 =>
 thn (ld1 h0 v6) fun v7 =>
 thn (biI .sub t19 (I 1)) fun v8 =>
 thn (idxS 1 t17 v8) fun v9 =>
 thn (ld1 h0 v9) fun v10 =>
 thn (biI .leq v7 v10) fun v11 =>
 Br v11 (
 Q (.bool false) h0) (
 A3_21 Q t0 t3 t5 t7 t8 t15 t16 t17 t19 h0)) (
 thn (biI .add t19 (I 1)) fun v6 =>
 A3_18 Q t0 t3 t5 t7 t8 t15 t16 t17 v6 h0))
) : A3_19 Q t0 t3 t5 t7 t8 t15 t16 t17 t19 h := by intro e he; cases he; exact bF L3 (by kernel_rfl) H
theorem b3_20 {h : AH} {Q : Value → AH → Prop} {t0 t3 t5 t7 t8 t15 : Value} (H :
 thn (biI .add t15 (I 1)) fun v0 =>
 A3_6 Q t0 t3 t5 t7 t8 v0 h
) : A3_20 Q t0 t3 t5 t7 t8 t15 h := by intro e he; cases he; exact bF L3 (by kernel_rfl) H
theorem b3_21 {h : AH} {Q : Value → AH → Prop} {t0 t3 t5 t7 t8 t15 t16 t17 t19 : Value} (H :
 thn (biI .add t19 (I 1)) fun v0 =>
 A3_18 Q t0 t3 t5 t7 t8 t15 t16 t17 v0 h
) : A3_21 Q t0 t3 t5 t7 t8 t15 t16 t17 t19 h := by intro e he; cases he; exact bF L3 (by kernel_rfl) H
theorem c3 {h : AH} {Q : Value → AH → Prop} {a0 a1 : Value} (H : A3_0 Q a0 a1 h) : Cl Pr K 3 [a0, a1] h Q :=
  ok_enter (by kernel_rfl) (by kernel_rfl) (Eq.mp (by kernel_rfl) (H (fun i => ([a0, a1] : List Value).getD i undef) rfl))

/-! ### 4 donjon/donjonlaw12.HomeApart: params 3, captured 0, results [tmp 6] -/
noncomputable def L4 : List (Option Nat × List Nat) := [(some 0, [0, 1, 2]), (some 5, [0, 2, 4, 7, 9]), (some 6, [0, 2, 4, 7, 9, 11]), (some 8, [0, 2, 4, 7, 9, 11]), (some 17, [2, 7, 9]), (some 11, [0, 2, 4, 7, 9, 11, 12]), (some 12, [0, 2, 4, 7, 9, 11, 12, 13]), (some 7, [0, 2, 4, 7, 9, 11]), (some 14, [0, 2, 4, 7, 9, 11, 12, 14, 15])]
noncomputable def A4_0 (Q : Value → AH → Prop) (t0 t1 t2 : Value) (h : AH) : Prop := Pt Pr K 4 none (retV Pr 4 Q) 184 [0, 1, 2] [.code (cc 4 2), .code (cc 4 3)] [] [t0, t1, t2] h
noncomputable def A4_1 (Q : Value → AH → Prop) (t0 t2 t4 t7 t9 : Value) (h : AH) : Prop := Pt Pr K 4 none (retV Pr 4 Q) 184 [0, 2, 4, 7, 9] [.code (cc 4 124), .code (cc 4 125), .code (cc 4 63)] [] [t0, t2, t4, t7, t9] h
noncomputable def A4_2 (Q : Value → AH → Prop) (t0 t2 t4 t7 t9 t11 : Value) (h : AH) : Prop := Pt Pr K 4 none (retV Pr 4 Q) 184 [0, 2, 4, 7, 9, 11] [.code (cc 4 2000), .code (cc 4 2001), .code (cc 4 1001), .inLoop (cc 4 500), .inBlock 0, .code (cc 4 63)] [] [t0, t2, t4, t7, t9, t11] h
noncomputable def A4_3 (Q : Value → AH → Prop) (t0 t2 t4 t7 t9 t11 : Value) (h : AH) : Prop := Pt Pr K 4 none (retV Pr 4 Q) 184 [0, 2, 4, 7, 9, 11] [.code (cc 4 8008), .code (cc 4 8009), .inBlock 1, .code (cc 4 2003), .inLoop (cc 4 500), .inBlock 0, .code (cc 4 63)] [] [t0, t2, t4, t7, t9, t11] h
noncomputable def A4_4 (Q : Value → AH → Prop) (t2 t7 t9 : Value) (h : AH) : Prop := Pt Pr K 4 none (retV Pr 4 Q) 184 [2, 7, 9] [.code (cc 4 126), .code (cc 4 127)] [] [t2, t7, t9] h
noncomputable def A4_5 (Q : Value → AH → Prop) (t0 t2 t4 t7 t9 t11 t12 : Value) (h : AH) : Prop := Pt Pr K 4 none (retV Pr 4 Q) 184 [0, 2, 4, 7, 9, 11, 12] [.code (cc 4 128154), .code (cc 4 32039), .inBlock 1, .code (cc 4 2003), .inLoop (cc 4 500), .inBlock 0, .code (cc 4 63)] [] [t0, t2, t4, t7, t9, t11, t12] h
noncomputable def A4_6 (Q : Value → AH → Prop) (t0 t2 t4 t7 t9 t11 t12 t13 : Value) (h : AH) : Prop := Pt Pr K 4 none (retV Pr 4 Q) 184 [0, 2, 4, 7, 9, 11, 12, 13] [.code (cc 4 64078), .code (cc 4 64079), .inBlock 1, .code (cc 4 2003), .inLoop (cc 4 500), .inBlock 0, .code (cc 4 63)] [] [t0, t2, t4, t7, t9, t11, t12, t13] h
noncomputable def A4_7 (Q : Value → AH → Prop) (t0 t2 t4 t7 t9 t11 : Value) (h : AH) : Prop := Pt Pr K 4 none (retV Pr 4 Q) 184 [0, 2, 4, 7, 9, 11] [.code (cc 4 2003), .inLoop (cc 4 500), .inBlock 0, .code (cc 4 63)] [] [t0, t2, t4, t7, t9, t11] h
noncomputable def A4_8 (Q : Value → AH → Prop) (t0 t2 t4 t7 t9 t11 t12 t14 t15 : Value) (h : AH) : Prop := Pt Pr K 4 none (retV Pr 4 Q) 184 [0, 2, 4, 7, 9, 11, 12, 14, 15] [.code (cc 4 256318), .code (cc 4 256319), .inBlock 1, .code (cc 4 2003), .inLoop (cc 4 500), .inBlock 0, .code (cc 4 63)] [] [t0, t2, t4, t7, t9, t11, t12, t14, t15] h
theorem b4_0 {h : AH} {Q : Value → AH → Prop} {t0 t1 t2 : Value} (H :
 thn (blkOf 24 t1) fun b1 =>
 alc h b1 fun p2 h0 =>
 Cl Pr K 8 [] h0 fun v3 h3 => -- donjon/donjonlaw12.small
 Cl Pr K 7 [v3] h3 fun v4 h4 => -- donjon/home.New
 thn (extV 0 v4) fun v5 =>
 thn (extV 1 v4) fun v6 =>
 Cl Pr K 8 [] h4 fun v7 h7 => -- donjon/donjonlaw12.small
 Cl Pr K 7 [v7] h7 fun v8 h8 => -- donjon/home.New
 thn (extV 0 v8) fun v9 =>
 thn (extV 1 v8) fun v10 =>
 thn (biP .eql v5 (.pointer none)) fun v11 =>
 Br v11 (
 thn (biP .neq v5 (.pointer none)) fun v12 =>
 Br v12 (
 thn (biI .eql v6 (I 0)) fun v13 =>
 Br v13 (
 Cl Pr K 9 [] h8 fun v14 h14 => -- donjon/donjonlaw12.awake
 Q v14 h14) (
 Q (.bool false) h8)) (
 Q (.bool false) h8)) (
 thn (biP .eql v9 (.pointer none)) fun v12 =>
 Br v12 (
 thn (biP .neq v5 (.pointer none)) fun v13 =>
 Br v13 (
 thn (biI .eql v6 (I 0)) fun v14 =>
 Br v14 (
 Cl Pr K 9 [] h8 fun v15 h15 => -- donjon/donjonlaw12.awake
 Q v15 h15) (
 Q (.bool false) h8)) (
 Q (.bool false) h8)) (
 thn (biI .neq v6 (I 0)) fun v13 =>
 Br v13 (
 thn (biP .neq v5 (.pointer none)) fun v14 =>
 Br v14 (
 thn (biI .eql v6 (I 0)) fun v15 =>
 Br v15 (
 Cl Pr K 9 [] h8 fun v16 h16 => -- donjon/donjonlaw12.awake
 Q v16 h16) (
 Q (.bool false) h8)) (
 Q (.bool false) h8)) (
 thn (biI .neq v10 (I 0)) fun v14 =>
 Br v14 (
 thn (biP .neq v5 (.pointer none)) fun v15 =>
 Br v15 (
 thn (biI .eql v6 (I 0)) fun v16 =>
 Br v16 (
 Cl Pr K 9 [] h8 fun v17 h17 => -- donjon/donjonlaw12.awake
 Q v17 h17) (
 Q (.bool false) h8)) (
 Q (.bool false) h8)) (
 thn (lenS t0) fun v15 =>
 thn (biI .gtr v15 (I 60)) fun v16 =>
 Br v16 (
 thn (biP .neq v5 (.pointer none)) fun v17 =>
 Br v17 (
 thn (biI .eql v6 (I 0)) fun v18 =>
 Br v18 (
 Cl Pr K 9 [] h8 fun v19 h19 => -- donjon/donjonlaw12.awake
 Q v19 h19) (
 Q (.bool false) h8)) (
 Q (.bool false) h8)) (
 thn (biI .lss t2 (I 0)) fun v17 =>
 Br v17 (
 thn (biP .neq v5 (.pointer none)) fun v18 =>
 Br v18 (
 thn (biI .eql v6 (I 0)) fun v19 =>
 Br v19 (
 Cl Pr K 9 [] h8 fun v20 h20 => -- donjon/donjonlaw12.awake
 Q v20 h20) (
 Q (.bool false) h8)) (
 Q (.bool false) h8)) (
 thn (biI .gtr t2 (I 3)) fun v18 =>
 Br v18 (
 thn (biP .neq v5 (.pointer none)) fun v19 =>
 Br v19 (
 thn (biI .eql v6 (I 0)) fun v20 =>
 Br v20 (
 Cl Pr K 9 [] h8 fun v21 h21 => -- donjon/donjonlaw12.awake
 Q v21 h21) (
 Q (.bool false) h8)) (
 Q (.bool false) h8)) (
 A4_1 Q t0 t2 (pt p2 0 0) v5 v9 h8)))))))
) : A4_0 Q t0 t1 t2 h := by intro e he; cases he; exact bF L4 (by kernel_rfl) H
theorem b4_1 {h : AH} {Q : Value → AH → Prop} {t0 t2 t4 t7 t9 : Value} (H :
 A4_2 Q t0 t2 t4 t7 t9 (I 0) h
) : A4_1 Q t0 t2 t4 t7 t9 h := by intro e he; cases he; exact bF L4 (by kernel_rfl) H
theorem b4_2 {h : AH} {Q : Value → AH → Prop} {t0 t2 t4 t7 t9 t11 : Value} (H :
 thn (lenS t0) fun v0 =>
 thn (biI .lss t11 v0) fun v1 =>
 Br v1 (
 A4_3 Q t0 t2 t4 t7 t9 t11 h) (
 A4_4 Q t2 t7 t9 h)
) : A4_2 Q t0 t2 t4 t7 t9 t11 h := by intro e he; cases he; exact bF L4 (by kernel_rfl) H
theorem b4_3 {h : AH} {Q : Value → AH → Prop} {t0 t2 t4 t7 t9 t11 : Value} (H :
 thn (idxS 11 t0 t11) fun v0 =>
 thn (ldN h 11 v0) fun v1 =>
 alc h (.cells [(I 0), (I 0), (I 0), (I 0), (I 0), (I 0), (I 0), (I 0), (.bool false), (I 0), (I 0)] 40 (0, 0) true) fun p3 h2 =>
 thn (stV h2 11 (pt p3 0 0) v1) fun h4 =>
 thn (padd 10 (pt p3 0 0)) fun v5 =>
 thn (ld1 h4 v5) fun v6 =>
 thn (padd 0 (pt p3 0 0)) fun v7 =>
 thn (ld1 h4 v7) fun v8 =>
 thn (biI .eql v8 (I 0)) fun v9 =>
 Br v9 (
 A4_5 Q t0 t2 t4 t7 t9 t11 (pt p3 0 0) h4) (
 A4_6 Q t0 t2 t4 t7 t9 t11 (pt p3 0 0) v6 h4)
) : A4_3 Q t0 t2 t4 t7 t9 t11 h := by intro e he; cases he; exact bF L4 (by kernel_rfl) H
theorem b4_4 {h : AH} {Q : Value → AH → Prop} {t2 t7 t9 : Value} (H :
 Cl Pr K 15 [t7, t2] h fun v0 h0 => -- (*donjon/home.Home).Who
 thn (extV 0 v0) fun v1 =>
 thn (extV 1 v0) fun v2 =>
 thn (extV 2 v0) fun v3 =>
 Cl Pr K 15 [t9, t2] h0 fun v4 h4 => -- (*donjon/home.Home).Who
 thn (extV 0 v4) fun v5 =>
 thn (extV 1 v4) fun v6 =>
 thn (extV 2 v4) fun v7 =>
 thn (nilV t7) fun v8 =>
 thn (padd 0 v8) fun v9 =>
 thn (ld1 h4 v9) fun v10 =>
 Cl Pr K 19 [v10, t2] h4 fun v11 h11 => -- (*donjon/bank.Memory).Read
 thn (extV 0 v11) fun v12 =>
 thn (extV 1 v11) fun v13 =>
 alc h11 (.cells [(I 0), (I 0)] 36 (0, 0) true) fun p15 h14 =>
 thn (stV h14 2 (pt p15 0 0) v12) fun h16 =>
 thn (nilV t9) fun v17 =>
 thn (padd 0 v17) fun v18 =>
 thn (ld1 h16 v18) fun v19 =>
 Cl Pr K 19 [v19, t2] h16 fun v20 h20 => -- (*donjon/bank.Memory).Read
 thn (extV 0 v20) fun v21 =>
 thn (extV 1 v20) fun v22 =>
 alc h20 (.cells [(I 0), (I 0)] 36 (0, 0) true) fun p24 h23 =>
 thn (stV h23 2 (pt p24 0 0) v21) fun h25 =>
 thn (biI .eql v1 v5) fun v26 =>
 Br v26 (
 Cl Pr K 20 [v2, v6] h25 fun v27 h27 => -- donjon/donjonlaw12.ints
 Br v27 (
 thn (ldN h27 2 (pt p15 0 0)) fun v28 =>
 thn (ldN h27 2 (pt p24 0 0)) fun v29 =>
 thn (biA [0, 0] .eql v28 v29) fun v30 =>
 Br v30 (
 Cl Pr K 12 [t7, t2] h27 fun v31 h31 => -- (*donjon/home.Home).Busy
 Cl Pr K 12 [t9, t2] h31 fun v32 h32 => -- (*donjon/home.Home).Busy
 thn (biB .eql v31 v32) fun v33 =>
 Br v33 (
 Cl Pr K 16 [t7, t2] h32 fun v34 h34 => -- (*donjon/home.Home).Waits
 Cl Pr K 16 [t9, t2] h34 fun v35 h35 => -- (*donjon/home.Home).Waits
 thn (biI .eql v34 v35) fun v36 =>
 Br v36 (
 Cl Pr K 9 [] h35 fun v37 h37 => -- donjon/donjonlaw12.awake
 Q v37 h37) (
 Q (.bool false) h35)) (
 Q (.bool false) h32)) (
 Q (.bool false) h27)) (
 Q (.bool false) h27)) (
 Q (.bool false) h25)
) : A4_4 Q t2 t7 t9 h := by intro e he; cases he; exact bF L4 (by kernel_rfl) H
theorem b4_5 {h : AH} {Q : Value → AH → Prop} {t0 t2 t4 t7 t9 t11 t12 : Value} (H :
 thn (padd 1 t12) fun v0 =>
 thn (padd 2 v0) fun v1 =>
 thn (ld1 h v1) fun v2 =>
 thn (ldN h 11 t12) fun v3 =>
 thn (ldN h 1 t4) fun v4 =>
 Cl Pr K 17 [t7, v3, v4] h fun v5 h5 => -- donjon/donjonlaw12.answers
 thn (extV 0 v5) fun v6 =>
 thn (extV 1 v5) fun v7 =>
 thn (biI .neq v2 t2) fun v8 =>
 Br v8 (
 A4_7 Q t0 t2 t4 t7 t9 t11 h5) (
 A4_8 Q t0 t2 t4 t7 t9 t11 t12 v6 v7 h5)
) : A4_5 Q t0 t2 t4 t7 t9 t11 t12 h := by intro e he; cases he; exact bF L4 (by kernel_rfl) H
theorem b4_6 {h : AH} {Q : Value → AH → Prop} {t0 t2 t4 t7 t9 t11 t12 t13 : Value} (H :
 thn (ldN h 11 t12) fun v0 =>
 thn (ldN h 1 t4) fun v1 =>
 Cl Pr K 17 [t7, v0, v1] h fun v2 h2 => -- donjon/donjonlaw12.answers
 thn (extV 0 v2) fun v3 =>
 thn (extV 1 v2) fun v4 =>
 thn (biI .neq t13 t2) fun v5 =>
 Br v5 (
 A4_7 Q t0 t2 t4 t7 t9 t11 h2) (
 A4_8 Q t0 t2 t4 t7 t9 t11 t12 v3 v4 h2)
) : A4_6 Q t0 t2 t4 t7 t9 t11 t12 t13 h := by intro e he; cases he; exact bF L4 (by kernel_rfl) H
theorem b4_7 {h : AH} {Q : Value → AH → Prop} {t0 t2 t4 t7 t9 t11 : Value} (H :
 thn (biI .add t11 (I 1)) fun v0 =>
 A4_2 Q t0 t2 t4 t7 t9 v0 h
) : A4_7 Q t0 t2 t4 t7 t9 t11 h := by intro e he; cases he; exact bF L4 (by kernel_rfl) H
theorem b4_8 {h : AH} {Q : Value → AH → Prop} {t0 t2 t4 t7 t9 t11 t12 t14 t15 : Value} (H :
 thn (ldN h 11 t12) fun v0 =>
 thn (ldN h 1 t4) fun v1 =>
 Cl Pr K 17 [t9, v0, v1] h fun v2 h2 => -- donjon/donjonlaw12.answers
 thn (extV 0 v2) fun v3 =>
 thn (extV 1 v2) fun v4 =>
 Cl Pr K 18 [t14, v3] h2 fun v5 h5 => -- donjon/donjonlaw12.Notes
 thn (unV .not v5) fun v6 =>
 Br v6 (
 Q (.bool false) h5) (
 thn (biI .neq t15 v4) fun v7 =>
 Br v7 (
 Q (.bool false) h5) (
 A4_7 Q t0 t2 t4 t7 t9 t11 h5))
) : A4_8 Q t0 t2 t4 t7 t9 t11 t12 t14 t15 h := by intro e he; cases he; exact bF L4 (by kernel_rfl) H
theorem c4 {h : AH} {Q : Value → AH → Prop} {a0 a1 a2 : Value} (H : A4_0 Q a0 a1 a2 h) : Cl Pr K 4 [a0, a1, a2] h Q :=
  ok_enter (by kernel_rfl) (by kernel_rfl) (Eq.mp (by kernel_rfl) (H (fun i => ([a0, a1, a2] : List Value).getD i undef) rfl))

/-! ### 5 donjon/donjonlaw12.HomeSwept: params 2, captured 0, results [tmp 4] -/
noncomputable def L5 : List (Option Nat × List Nat) := [(some 0, [0, 1]), (some 4, [0, 3, 5]), (some 5, [0, 3, 5, 7]), (some 7, [0, 3, 5, 7]), (some 9, [0, 3, 5, 7, 8, 9]), (some 11, [0, 3, 5, 7, 8, 9]), (some 12, [0, 3, 5, 7, 8]), (some 14, [0, 3, 5, 7, 8, 11, 12]), (some 16, [0, 3, 5, 7, 8, 11, 12]), (some 6, [0, 3, 5, 7]), (some 15, [0, 3, 5, 7, 8, 11, 12]), (some 17, [0, 3, 5, 7, 8, 11, 12])]
noncomputable def A5_0 (Q : Value → AH → Prop) (t0 t1 : Value) (h : AH) : Prop := Pt Pr K 5 none (retV Pr 5 Q) 150 [0, 1] [.code (cc 5 2), .code (cc 5 3)] [] [t0, t1] h
noncomputable def A5_1 (Q : Value → AH → Prop) (t0 t3 t5 : Value) (h : AH) : Prop := Pt Pr K 5 none (retV Pr 5 Q) 150 [0, 3, 5] [.code (cc 5 60), .code (cc 5 61), .code (cc 5 31)] [] [t0, t3, t5] h
noncomputable def A5_2 (Q : Value → AH → Prop) (t0 t3 t5 t7 : Value) (h : AH) : Prop := Pt Pr K 5 none (retV Pr 5 Q) 150 [0, 3, 5, 7] [.code (cc 5 976), .code (cc 5 977), .code (cc 5 489), .inLoop (cc 5 244), .inBlock 0, .code (cc 5 31)] [] [t0, t3, t5, t7] h
noncomputable def A5_3 (Q : Value → AH → Prop) (t0 t3 t5 t7 : Value) (h : AH) : Prop := Pt Pr K 5 none (retV Pr 5 Q) 150 [0, 3, 5, 7] [.code (cc 5 3912), .code (cc 5 3913), .inBlock 1, .code (cc 5 979), .inLoop (cc 5 244), .inBlock 0, .code (cc 5 31)] [] [t0, t3, t5, t7] h
noncomputable def A5_4 (Q : Value → AH → Prop) (t0 t3 t5 t7 t8 t9 : Value) (h : AH) : Prop := Pt Pr K 5 none (retV Pr 5 Q) 150 [0, 3, 5, 7, 8, 9] [.code (cc 5 250448), .code (cc 5 250449), .code (cc 5 125225), .inLoop (cc 5 62612), .inBlock 2, .code (cc 5 7827), .inBlock 1, .code (cc 5 979), .inLoop (cc 5 244), .inBlock 0, .code (cc 5 31)] [] [t0, t3, t5, t7, t8, t9] h
noncomputable def A5_5 (Q : Value → AH → Prop) (t0 t3 t5 t7 t8 t9 : Value) (h : AH) : Prop := Pt Pr K 5 none (retV Pr 5 Q) 150 [0, 3, 5, 7, 8, 9] [.code (cc 5 500900), .inBlock 3, .code (cc 5 250451), .inLoop (cc 5 62612), .inBlock 2, .code (cc 5 7827), .inBlock 1, .code (cc 5 979), .inLoop (cc 5 244), .inBlock 0, .code (cc 5 31)] [] [t0, t3, t5, t7, t8, t9] h
noncomputable def A5_6 (Q : Value → AH → Prop) (t0 t3 t5 t7 t8 : Value) (h : AH) : Prop := Pt Pr K 5 none (retV Pr 5 Q) 150 [0, 3, 5, 7, 8] [.code (cc 5 15654), .code (cc 5 15655), .inBlock 1, .code (cc 5 979), .inLoop (cc 5 244), .inBlock 0, .code (cc 5 31)] [] [t0, t3, t5, t7, t8] h
noncomputable def A5_7 (Q : Value → AH → Prop) (t0 t3 t5 t7 t8 t11 t12 : Value) (h : AH) : Prop := Pt Pr K 5 none (retV Pr 5 Q) 150 [0, 3, 5, 7, 8, 11, 12] [.code (cc 5 500976), .code (cc 5 500977), .code (cc 5 250489), .inLoop (cc 5 125244), .inBlock 4, .inBlock 1, .code (cc 5 979), .inLoop (cc 5 244), .inBlock 0, .code (cc 5 31)] [] [t0, t3, t5, t7, t8, t11, t12] h
noncomputable def A5_8 (Q : Value → AH → Prop) (t0 t3 t5 t7 t8 t11 t12 : Value) (h : AH) : Prop := Pt Pr K 5 none (retV Pr 5 Q) 150 [0, 3, 5, 7, 8, 11, 12] [.code (cc 5 4007824), .code (cc 5 4007825), .code (cc 5 2003913), .inBlock 5, .code (cc 5 500979), .inLoop (cc 5 125244), .inBlock 4, .inBlock 1, .code (cc 5 979), .inLoop (cc 5 244), .inBlock 0, .code (cc 5 31)] [] [t0, t3, t5, t7, t8, t11, t12] h
noncomputable def A5_9 (Q : Value → AH → Prop) (t0 t3 t5 t7 : Value) (h : AH) : Prop := Pt Pr K 5 none (retV Pr 5 Q) 150 [0, 3, 5, 7] [.code (cc 5 979), .inLoop (cc 5 244), .inBlock 0, .code (cc 5 31)] [] [t0, t3, t5, t7] h
noncomputable def A5_10 (Q : Value → AH → Prop) (t0 t3 t5 t7 t8 t11 t12 : Value) (h : AH) : Prop := Pt Pr K 5 none (retV Pr 5 Q) 150 [0, 3, 5, 7, 8, 11, 12] [.code (cc 5 500979), .inLoop (cc 5 125244), .inBlock 4, .inBlock 1, .code (cc 5 979), .inLoop (cc 5 244), .inBlock 0, .code (cc 5 31)] [] [t0, t3, t5, t7, t8, t11, t12] h
noncomputable def A5_11 (Q : Value → AH → Prop) (t0 t3 t5 t7 t8 t11 t12 : Value) (h : AH) : Prop := Pt Pr K 5 none (retV Pr 5 Q) 150 [0, 3, 5, 7, 8, 11, 12] [.code (cc 5 4007826), .code (cc 5 4007827), .inBlock 5, .code (cc 5 500979), .inLoop (cc 5 125244), .inBlock 4, .inBlock 1, .code (cc 5 979), .inLoop (cc 5 244), .inBlock 0, .code (cc 5 31)] [] [t0, t3, t5, t7, t8, t11, t12] h
theorem b5_0 {h : AH} {Q : Value → AH → Prop} {t0 t1 : Value} (H :
 thn (blkOf 24 t1) fun b1 =>
 alc h b1 fun p2 h0 =>
 Cl Pr K 8 [] h0 fun v3 h3 => -- donjon/donjonlaw12.small
 Cl Pr K 7 [v3] h3 fun v4 h4 => -- donjon/home.New
 thn (extV 0 v4) fun v5 =>
 thn (extV 1 v4) fun v6 =>
 thn (biP .eql v5 (.pointer none)) fun v7 =>
 Br v7 (
 thn (biP .neq v5 (.pointer none)) fun v8 =>
 Br v8 (
 thn (biI .eql v6 (I 0)) fun v9 =>
 Br v9 (
 Cl Pr K 9 [] h4 fun v10 h10 => -- donjon/donjonlaw12.awake
 Q v10 h10) (
 Q (.bool false) h4)) (
 Q (.bool false) h4)) (
 thn (biI .neq v6 (I 0)) fun v8 =>
 Br v8 (
 thn (biP .neq v5 (.pointer none)) fun v9 =>
 Br v9 (
 thn (biI .eql v6 (I 0)) fun v10 =>
 Br v10 (
 Cl Pr K 9 [] h4 fun v11 h11 => -- donjon/donjonlaw12.awake
 Q v11 h11) (
 Q (.bool false) h4)) (
 Q (.bool false) h4)) (
 thn (lenS t0) fun v9 =>
 thn (biI .gtr v9 (I 80)) fun v10 =>
 Br v10 (
 thn (biP .neq v5 (.pointer none)) fun v11 =>
 Br v11 (
 thn (biI .eql v6 (I 0)) fun v12 =>
 Br v12 (
 Cl Pr K 9 [] h4 fun v13 h13 => -- donjon/donjonlaw12.awake
 Q v13 h13) (
 Q (.bool false) h4)) (
 Q (.bool false) h4)) (
 A5_1 Q t0 (pt p2 0 0) v5 h4)))
) : A5_0 Q t0 t1 h := by intro e he; cases he; exact bF L5 (by kernel_rfl) H
theorem b5_1 {h : AH} {Q : Value → AH → Prop} {t0 t3 t5 : Value} (H :
 A5_2 Q t0 t3 t5 (I 0) h
) : A5_1 Q t0 t3 t5 h := by intro e he; cases he; exact bF L5 (by kernel_rfl) H
theorem b5_2 {h : AH} {Q : Value → AH → Prop} {t0 t3 t5 t7 : Value} (H :
 thn (lenS t0) fun v0 =>
 thn (biI .lss t7 v0) fun v1 =>
 Br v1 (
 A5_3 Q t0 t3 t5 t7 h) (
 Cl Pr K 9 [] h fun v2 h2 => -- donjon/donjonlaw12.awake
 Q v2 h2)
) : A5_2 Q t0 t3 t5 t7 h := by intro e he; cases he; exact bF L5 (by kernel_rfl) H
theorem b5_3 {h : AH} {Q : Value → AH → Prop} {t0 t3 t5 t7 : Value} (H :
 alc h (.cells [(I 0), (I 0), (I 0), (I 0)] 62 (0, 0) true) fun p1 h0 =>
 A5_4 Q t0 t3 t5 t7 (pt p1 0 0) (I 0) h0
) : A5_3 Q t0 t3 t5 t7 h := by intro e he; cases he; exact bF L5 (by kernel_rfl) H
theorem b5_4 {h : AH} {Q : Value → AH → Prop} {t0 t3 t5 t7 t8 t9 : Value} (H :
 thn (biI .lss t9 (I 4)) fun v0 =>
 Br v0 (
 A5_5 Q t0 t3 t5 t7 t8 t9 h) (
 A5_6 Q t0 t3 t5 t7 t8 h)
) : A5_4 Q t0 t3 t5 t7 t8 t9 h := by intro e he; cases he; exact bF L5 (by kernel_rfl) H
theorem b5_5 {h : AH} {Q : Value → AH → Prop} {t0 t3 t5 t7 t8 t9 : Value} (H :
 Cl Pr K 21 [t5, t9] h fun v0 h0 => -- (*donjon/home.Home).Sweeps
 thn (idxA 4 1 t8 t9) fun v1 =>
 thn (stV h0 1 v1 v0) fun h2 =>
 thn (biI .add t9 (I 1)) fun v3 =>
 A5_4 Q t0 t3 t5 t7 t8 v3 h2
) : A5_5 Q t0 t3 t5 t7 t8 t9 h := by intro e he; cases he; exact bF L5 (by kernel_rfl) H
theorem b5_6 {h : AH} {Q : Value → AH → Prop} {t0 t3 t5 t7 t8 : Value} (H :
 resv h 12 fun r1 h0 =>
 thn (idxS 11 t0 t7) fun v2 =>
 thn (ldN h0 11 v2) fun v3 =>
 thn (ldN h0 1 t3) fun v4 =>
 Cl Pr K 17 [t5, v3, v4] h0 fun v5 h5 => -- donjon/donjonlaw12.answers
 thn (extV 0 v5) fun v6 =>
 thn (extV 1 v5) fun v7 =>
 A5_7 Q t0 t3 t5 t7 t8 v7 (I 0) h5
) : A5_6 Q t0 t3 t5 t7 t8 h := by intro e he; cases he; exact bF L5 (by kernel_rfl) H
theorem b5_7 {h : AH} {Q : Value → AH → Prop} {t0 t3 t5 t7 t8 t11 t12 : Value} (H :
 thn (biI .lss t12 (I 4)) fun v0 =>
 Br v0 (
 A5_8 Q t0 t3 t5 t7 t8 t11 t12 h) (
 A5_9 Q t0 t3 t5 t7 h)
) : A5_7 Q t0 t3 t5 t7 t8 t11 t12 h := by intro e he; cases he; exact bF L5 (by kernel_rfl) H
theorem b5_8 {h : AH} {Q : Value → AH → Prop} {t0 t3 t5 t7 t8 t11 t12 : Value} (H :
 resv h 7 fun r1 h0 =>
 Cl Pr K 21 [t5, t12] h0 fun v2 h2 => -- (*donjon/home.Home).Sweeps
 thn (idxA 4 1 t8 t12) fun v3 =>
 thn (ld1 h2 v3) fun v4 =>
 thn (biI .geq v2 v4) fun v5 =>
(veq t12 t12 = true) ∧ (
(thn (idxA 4 1 t8 t12) fun v6 =>
 veq v6 v3 = true) ∧ (
(thn (ld1 h0 v3) fun v7 =>
 veq v7 v4 = true) ∧ (
 Br v5 (
 A5_10 Q t0 t3 t5 t7 t8 t11 t12 h2) (
 A5_11 Q t0 t3 t5 t7 t8 t11 t12 h2))))
) : A5_8 Q t0 t3 t5 t7 t8 t11 t12 h := by intro e he; cases he; exact bF L5 (by kernel_rfl) H
theorem b5_9 {h : AH} {Q : Value → AH → Prop} {t0 t3 t5 t7 : Value} (H :
 thn (biI .add t7 (I 1)) fun v0 =>
 A5_2 Q t0 t3 t5 v0 h
) : A5_9 Q t0 t3 t5 t7 h := by intro e he; cases he; exact bF L5 (by kernel_rfl) H
theorem b5_10 {h : AH} {Q : Value → AH → Prop} {t0 t3 t5 t7 t8 t11 t12 : Value} (H :
 thn (biI .add t12 (I 1)) fun v0 =>
 A5_7 Q t0 t3 t5 t7 t8 t11 v0 h
) : A5_10 Q t0 t3 t5 t7 t8 t11 t12 h := by intro e he; cases he; exact bF L5 (by kernel_rfl) H
theorem b5_11 {h : AH} {Q : Value → AH → Prop} {t0 t3 t5 t7 t8 t11 t12 : Value} (H :
 Cl Pr K 15 [t5, t12] h fun v0 h0 => -- (*donjon/home.Home).Who
 thn (extV 0 v0) fun v1 =>
 thn (extV 1 v0) fun v2 =>
 thn (extV 2 v0) fun v3 =>
 thn (nilV t5) fun v4 =>
 thn (padd 0 v4) fun v5 =>
 thn (ld1 h0 v5) fun v6 =>
 Cl Pr K 19 [v6, t12] h0 fun v7 h7 => -- (*donjon/bank.Memory).Read
 thn (extV 0 v7) fun v8 =>
 thn (extV 1 v7) fun v9 =>
 alc h7 (.cells [(I 0), (I 0)] 36 (0, 0) true) fun p11 h10 =>
 thn (stV h10 2 (pt p11 0 0) v8) fun h12 =>
 thn (idxS 11 t0 t7) fun v13 =>
 thn (padd 1 v13) fun v14 =>
 thn (ldN h12 9 v14) fun v15 =>
 alc h12 (.cells [(I 0), (I 0), (I 0), (I 0), (I 0), (I 0), (I 0), (.bool false), (I 0)] 38 (0, 0) true) fun p17 h16 =>
 thn (stV h16 9 (pt p17 0 0) v15) fun h18 =>
 resv h18 48 fun r20 h19 =>
 thn (biI .neq t11 (I 0)) fun v21 =>
 Br v21 (
 Q (.bool false) h19) (
 thn (biI .neq v3 (I 0)) fun v22 =>
 Br v22 (
 Q (.bool false) h19) (
 Cl Pr K 21 [t5, t12] h19 fun v23 h23 => -- (*donjon/home.Home).Sweeps
 thn (idxA 4 1 t8 t12) fun v24 =>
 thn (ld1 h23 v24) fun v25 =>
 thn (biI .sub v25 (I 1)) fun v26 =>
 thn (biI .neq v23 v26) fun v27 =>
 Br v27 (
(veq t12 t12 = true) ∧ (
(thn (idxA 4 1 t8 t12) fun v28 =>
 veq v28 v24 = true) ∧ (
(thn (ld1 h19 v24) fun v29 =>
 veq v29 v25 = true) ∧ (
(thn (biI .sub v25 (I 1)) fun v30 =>
 veq v30 v26 = true) ∧ (
 Q (.bool false) h23))))) (
 thn (biI .neq v1 (I (-1))) fun v28 =>
 Br v28 (
(veq t12 t12 = true) ∧ (
(thn (idxA 4 1 t8 t12) fun v29 =>
 veq v29 v24 = true) ∧ (
(thn (ld1 h19 v24) fun v30 =>
 veq v30 v25 = true) ∧ (
(thn (biI .sub v25 (I 1)) fun v31 =>
 veq v31 v26 = true) ∧ (
 Q (.bool false) h23))))) (
 thn (lenS v2) fun v29 =>
 thn (biI .neq v29 (I 0)) fun v30 =>
 Br v30 (
(veq t12 t12 = true) ∧ (
(thn (idxA 4 1 t8 t12) fun v31 =>
 veq v31 v24 = true) ∧ (
(thn (ld1 h19 v24) fun v32 =>
 veq v32 v25 = true) ∧ (
(thn (biI .sub v25 (I 1)) fun v33 =>
 veq v33 v26 = true) ∧ (
 Q (.bool false) h23))))) (
 Cl Pr K 12 [t5, t12] h23 fun v31 h31 => -- (*donjon/home.Home).Busy
 Br v31 (
(veq t12 t12 = true) ∧ (
(thn (idxA 4 1 t8 t12) fun v32 =>
 veq v32 v24 = true) ∧ (
(thn (ld1 h19 v24) fun v33 =>
 veq v33 v25 = true) ∧ (
(thn (biI .sub v25 (I 1)) fun v34 =>
 veq v34 v26 = true) ∧ (
 Q (.bool false) h31))))) (
 thn (idxS 11 t0 t7) fun v32 =>
 thn (padd 0 v32) fun v33 =>
 thn (ld1 h31 v33) fun v34 =>
 thn (biI .eql v34 (I 0)) fun v35 =>
 Br v35 (
 thn (padd 7 (pt p17 0 0)) fun v36 =>
 thn (ld1 h31 v36) fun v37 =>
 Br v37 (
 thn (ldN h31 2 (pt p11 0 0)) fun v38 =>
 thn (padd 5 (pt p17 0 0)) fun v39 =>
 thn (ldN h31 2 v39) fun v40 =>
 thn (biA [0, 0] .neq v38 v40) fun v41 =>
(veq t12 t12 = true) ∧ (
(thn (idxA 4 1 t8 t12) fun v42 =>
 veq v42 v24 = true) ∧ (
(thn (ld1 h19 v24) fun v43 =>
 veq v43 v25 = true) ∧ (
(thn (biI .sub v25 (I 1)) fun v44 =>
 veq v44 v26 = true) ∧ (
 Br v41 (
 Q (.bool false) h31) (
 A5_10 Q t0 t3 t5 t7 t8 t11 t12 h31)))))) (
(veq t12 t12 = true) ∧ (
(thn (idxA 4 1 t8 t12) fun v38 =>
 veq v38 v24 = true) ∧ (
(thn (ld1 h19 v24) fun v39 =>
 veq v39 v25 = true) ∧ (
(thn (biI .sub v25 (I 1)) fun v40 =>
 veq v40 v26 = true) ∧ (
 thn (biI .add t12 (I 1)) fun v41 =>
 A5_7 Q t0 t3 t5 t7 t8 t11 v41 h31)))))) (
(veq t12 t12 = true) ∧ (
(thn (idxA 4 1 t8 t12) fun v36 =>
 veq v36 v24 = true) ∧ (
(thn (ld1 h19 v24) fun v37 =>
 veq v37 v25 = true) ∧ (
(thn (biI .sub v25 (I 1)) fun v38 =>
 veq v38 v26 = true) ∧ (
 thn (biI .add t12 (I 1)) fun v39 =>
 A5_7 Q t0 t3 t5 t7 t8 t11 v39 h31)))))))))))
) : A5_11 Q t0 t3 t5 t7 t8 t11 t12 h := by intro e he; cases he; exact bF L5 (by kernel_rfl) H
theorem c5 {h : AH} {Q : Value → AH → Prop} {a0 a1 : Value} (H : A5_0 Q a0 a1 h) : Cl Pr K 5 [a0, a1] h Q :=
  ok_enter (by kernel_rfl) (by kernel_rfl) (Eq.mp (by kernel_rfl) (H (fun i => ([a0, a1] : List Value).getD i undef) rfl))

/-! ### 14 donjon/donjonlaw12.serves: params 2, captured 0, results [tmp 4] -/
noncomputable def L14 : List (Option Nat × List Nat) := [(some 0, [0, 1]), (some 2, [1, 2, 5]), (some 4, [1, 2, 5]), (some 7, [1, 2, 5, 6]), (some 9, [1, 2, 5, 6]), (some 10, [1, 2, 5, 6, 7]), (some 11, [1, 2, 5, 6]), (some 12, [1, 2, 5, 7]), (some 3, [1, 2, 5])]
noncomputable def A14_0 (Q : Value → AH → Prop) (t0 t1 : Value) (h : AH) : Prop := Pt Pr K 14 none (retV Pr 14 Q) 107 [0, 1] [.code (cc 14 2), .code (cc 14 3)] [] [t0, t1] h
noncomputable def A14_1 (Q : Value → AH → Prop) (t1 t2 t5 : Value) (h : AH) : Prop := Pt Pr K 14 none (retV Pr 14 Q) 107 [1, 2, 5] [.code (cc 14 208), .code (cc 14 209), .code (cc 14 105), .inLoop (cc 14 52), .inBlock 0, .code (cc 14 7)] [] [t1, t2, t5] h
noncomputable def A14_2 (Q : Value → AH → Prop) (t1 t2 t5 : Value) (h : AH) : Prop := Pt Pr K 14 none (retV Pr 14 Q) 107 [1, 2, 5] [.code (cc 14 840), .code (cc 14 841), .inBlock 1, .code (cc 14 211), .inLoop (cc 14 52), .inBlock 0, .code (cc 14 7)] [] [t1, t2, t5] h
noncomputable def A14_3 (Q : Value → AH → Prop) (t1 t2 t5 t6 : Value) (h : AH) : Prop := Pt Pr K 14 none (retV Pr 14 Q) 107 [1, 2, 5, 6] [.code (cc 14 3366), .code (cc 14 3367), .inBlock 1, .code (cc 14 211), .inLoop (cc 14 52), .inBlock 0, .code (cc 14 7)] [] [t1, t2, t5, t6] h
noncomputable def A14_4 (Q : Value → AH → Prop) (t1 t2 t5 t6 : Value) (h : AH) : Prop := Pt Pr K 14 none (retV Pr 14 Q) 107 [1, 2, 5, 6] [.code (cc 14 26938), .code (cc 14 6735), .inBlock 1, .code (cc 14 211), .inLoop (cc 14 52), .inBlock 0, .code (cc 14 7)] [] [t1, t2, t5, t6] h
noncomputable def A14_5 (Q : Value → AH → Prop) (t1 t2 t5 t6 t7 : Value) (h : AH) : Prop := Pt Pr K 14 none (retV Pr 14 Q) 107 [1, 2, 5, 6, 7] [.code (cc 14 26940), .code (cc 14 26941), .code (cc 14 13471), .inBlock 1, .code (cc 14 211), .inLoop (cc 14 52), .inBlock 0, .code (cc 14 7)] [] [t1, t2, t5, t6, t7] h
noncomputable def A14_6 (Q : Value → AH → Prop) (t1 t2 t5 t6 : Value) (h : AH) : Prop := Pt Pr K 14 none (retV Pr 14 Q) 107 [1, 2, 5, 6] [.code (cc 14 53882), .code (cc 14 13471), .inBlock 1, .code (cc 14 211), .inLoop (cc 14 52), .inBlock 0, .code (cc 14 7)] [] [t1, t2, t5, t6] h
noncomputable def A14_7 (Q : Value → AH → Prop) (t1 t2 t5 t7 : Value) (h : AH) : Prop := Pt Pr K 14 none (retV Pr 14 Q) 107 [1, 2, 5, 7] [.code (cc 14 26942), .code (cc 14 26943), .inBlock 1, .code (cc 14 211), .inLoop (cc 14 52), .inBlock 0, .code (cc 14 7)] [] [t1, t2, t5, t7] h
noncomputable def A14_8 (Q : Value → AH → Prop) (t1 t2 t5 : Value) (h : AH) : Prop := Pt Pr K 14 none (retV Pr 14 Q) 107 [1, 2, 5] [.code (cc 14 211), .inLoop (cc 14 52), .inBlock 0, .code (cc 14 7)] [] [t1, t2, t5] h
theorem b14_0 {h : AH} {Q : Value → AH → Prop} {t0 t1 : Value} (H :
 thn (blkOf 38 t0) fun b1 =>
 alc h b1 fun p2 h0 =>
 A14_1 Q t1 (pt p2 0 0) (I 0) h0
) : A14_0 Q t0 t1 h := by intro e he; cases he; exact bF L14 (by kernel_rfl) H
theorem b14_1 {h : AH} {Q : Value → AH → Prop} {t1 t2 t5 : Value} (H :
 thn (lenS t1) fun v0 =>
 thn (biI .lss t5 v0) fun v1 =>
 Br v1 (
 A14_2 Q t1 t2 t5 h) (
 thn (lenS t1) fun v2 =>
 thn (biI .gtr v2 (I 0)) fun v3 =>
 Br v3 (
 Q (.bool true) h) (
 thn (padd 0 t2) fun v4 =>
 thn (ld1 h v4) fun v5 =>
 thn (biI .eql v5 (I 0)) fun v6 =>
 Q v6 h))
) : A14_1 Q t1 t2 t5 h := by intro e he; cases he; exact bF L14 (by kernel_rfl) H
theorem b14_2 {h : AH} {Q : Value → AH → Prop} {t1 t2 t5 : Value} (H :
 thn (idxS 9 t1 t5) fun v0 =>
 thn (ldN h 9 v0) fun v1 =>
 alc h (.cells [(I 0), (I 0), (I 0), (I 0), (I 0), (I 0), (I 0), (.bool false), (I 0)] 38 (0, 0) true) fun p3 h2 =>
 thn (stV h2 9 (pt p3 0 0) v1) fun h4 =>
 thn (padd 2 (pt p3 0 0)) fun v5 =>
 thn (ld1 h4 v5) fun v6 =>
 thn (padd 2 t2) fun v7 =>
 thn (ld1 h4 v7) fun v8 =>
 thn (biI .neq v6 v8) fun v9 =>
 Br v9 (
 Q (.bool false) h4) (
 thn (padd 8 (pt p3 0 0)) fun v10 =>
 thn (ld1 h4 v10) fun v11 =>
 thn (biI .neq v11 (I 0)) fun v12 =>
 Br v12 (
 Q (.bool false) h4) (
 thn (padd 0 (pt p3 0 0)) fun v13 =>
 thn (ld1 h4 v13) fun v14 =>
 thn (biI .neq v14 (I 8)) fun v15 =>
 Br v15 (
 thn (padd 3 (pt p3 0 0)) fun v16 =>
 thn (ld1 h4 v16) fun v17 =>
 thn (biI .neq v17 (I 0)) fun v18 =>
 Br v18 (
 Q (.bool false) h4) (
 thn (padd 0 (pt p3 0 0)) fun v19 =>
 thn (ld1 h4 v19) fun v20 =>
 thn (biI .neq v20 (I 11)) fun v21 =>
 Br v21 (
 thn (padd 1 (pt p3 0 0)) fun v22 =>
 thn (ld1 h4 v22) fun v23 =>
 thn (padd 1 t2) fun v24 =>
 thn (ld1 h4 v24) fun v25 =>
 thn (biI .neq v23 v25) fun v26 =>
 Br v26 (
 Q (.bool false) h4) (
 thn (lenS t1) fun v27 =>
 thn (biI .neq v27 (I 1)) fun v28 =>
 Br v28 (
 Q (.bool false) h4) (
 thn (padd 0 (pt p3 0 0)) fun v29 =>
 thn (ld1 h4 v29) fun v30 =>
 thn (biI .eql v30 (I 11)) fun v31 =>
 Br v31 (
 thn (padd 1 (pt p3 0 0)) fun v32 =>
 thn (ld1 h4 v32) fun v33 =>
 thn (padd 1 t2) fun v34 =>
 thn (ld1 h4 v34) fun v35 =>
 thn (biI .eql v33 v35) fun v36 =>
 Br v36 (
 Q (.bool false) h4) (
 A14_3 Q t1 t2 t5 (pt p3 0 0) h4)) (
 thn (padd 0 (pt p3 0 0)) fun v32 =>
 thn (ld1 h4 v32) fun v33 =>
 thn (biI .eql v33 (I 11)) fun v34 =>
 Br v34 (
 thn (padd 0 t2) fun v35 =>
 thn (ld1 h4 v35) fun v36 =>
 thn (biI .eql v36 (I 3)) fun v37 =>
 Br v37 (
 A14_4 Q t1 t2 t5 (pt p3 0 0) h4) (
 A14_5 Q t1 t2 t5 (pt p3 0 0) (.bool true) h4)) (
 thn (padd 0 (pt p3 0 0)) fun v35 =>
 thn (ld1 h4 v35) fun v36 =>
 thn (biI .eql v36 (I 8)) fun v37 =>
 Br v37 (
 thn (padd 0 t2) fun v38 =>
 thn (ld1 h4 v38) fun v39 =>
 thn (biI .eql v39 (I 3)) fun v40 =>
 Br v40 (
 A14_4 Q t1 t2 t5 (pt p3 0 0) h4) (
 A14_5 Q t1 t2 t5 (pt p3 0 0) (.bool true) h4)) (
 thn (padd 0 (pt p3 0 0)) fun v38 =>
 thn (ld1 h4 v38) fun v39 =>
 thn (biI .eql v39 (I 9)) fun v40 =>
 thn (padd 0 t2) fun v41 =>
 thn (ld1 h4 v41) fun v42 =>
 thn (biI .eql v42 (I 3)) fun v43 =>
 Br v43 (
 A14_4 Q t1 t2 t5 (pt p3 0 0) h4) (
 A14_5 Q t1 t2 t5 (pt p3 0 0) v40 h4))))))) (
 thn (padd 0 (pt p3 0 0)) fun v22 =>
 thn (ld1 h4 v22) fun v23 =>
 thn (biI .eql v23 (I 11)) fun v24 =>
 Br v24 (
 thn (padd 1 (pt p3 0 0)) fun v25 =>
 thn (ld1 h4 v25) fun v26 =>
 thn (padd 1 t2) fun v27 =>
 thn (ld1 h4 v27) fun v28 =>
 thn (biI .eql v26 v28) fun v29 =>
 Br v29 (
 Q (.bool false) h4) (
 A14_3 Q t1 t2 t5 (pt p3 0 0) h4)) (
 thn (padd 0 (pt p3 0 0)) fun v25 =>
 thn (ld1 h4 v25) fun v26 =>
 thn (biI .eql v26 (I 11)) fun v27 =>
 Br v27 (
 thn (padd 0 t2) fun v28 =>
 thn (ld1 h4 v28) fun v29 =>
 thn (biI .eql v29 (I 3)) fun v30 =>
 Br v30 (
 A14_4 Q t1 t2 t5 (pt p3 0 0) h4) (
 A14_5 Q t1 t2 t5 (pt p3 0 0) (.bool true) h4)) (
 thn (padd 0 (pt p3 0 0)) fun v28 =>
 thn (ld1 h4 v28) fun v29 =>
 thn (biI .eql v29 (I 8)) fun v30 =>
 Br v30 (
 thn (padd 0 t2) fun v31 =>
 thn (ld1 h4 v31) fun v32 =>
 thn (biI .eql v32 (I 3)) fun v33 =>
 Br v33 (
 A14_4 Q t1 t2 t5 (pt p3 0 0) h4) (
 A14_5 Q t1 t2 t5 (pt p3 0 0) (.bool true) h4)) (
 thn (padd 0 (pt p3 0 0)) fun v31 =>
 thn (ld1 h4 v31) fun v32 =>
 thn (biI .eql v32 (I 9)) fun v33 =>
 thn (padd 0 t2) fun v34 =>
 thn (ld1 h4 v34) fun v35 =>
 thn (biI .eql v35 (I 3)) fun v36 =>
 Br v36 (
 A14_4 Q t1 t2 t5 (pt p3 0 0) h4) (
 A14_5 Q t1 t2 t5 (pt p3 0 0) v33 h4))))))) (
 thn (padd 0 (pt p3 0 0)) fun v16 =>
 thn (ld1 h4 v16) fun v17 =>
 thn (biI .neq v17 (I 11)) fun v18 =>
 Br v18 (
 thn (padd 1 (pt p3 0 0)) fun v19 =>
 thn (ld1 h4 v19) fun v20 =>
 thn (padd 1 t2) fun v21 =>
 thn (ld1 h4 v21) fun v22 =>
 thn (biI .neq v20 v22) fun v23 =>
 Br v23 (
 Q (.bool false) h4) (
 thn (lenS t1) fun v24 =>
 thn (biI .neq v24 (I 1)) fun v25 =>
 Br v25 (
 Q (.bool false) h4) (
 thn (padd 0 (pt p3 0 0)) fun v26 =>
 thn (ld1 h4 v26) fun v27 =>
 thn (biI .eql v27 (I 11)) fun v28 =>
 Br v28 (
 thn (padd 1 (pt p3 0 0)) fun v29 =>
 thn (ld1 h4 v29) fun v30 =>
 thn (padd 1 t2) fun v31 =>
 thn (ld1 h4 v31) fun v32 =>
 thn (biI .eql v30 v32) fun v33 =>
 Br v33 (
 Q (.bool false) h4) (
 A14_3 Q t1 t2 t5 (pt p3 0 0) h4)) (
 thn (padd 0 (pt p3 0 0)) fun v29 =>
 thn (ld1 h4 v29) fun v30 =>
 thn (biI .eql v30 (I 11)) fun v31 =>
 Br v31 (
 thn (padd 0 t2) fun v32 =>
 thn (ld1 h4 v32) fun v33 =>
 thn (biI .eql v33 (I 3)) fun v34 =>
 Br v34 (
 A14_4 Q t1 t2 t5 (pt p3 0 0) h4) (
 A14_5 Q t1 t2 t5 (pt p3 0 0) (.bool true) h4)) (
 thn (padd 0 (pt p3 0 0)) fun v32 =>
 thn (ld1 h4 v32) fun v33 =>
 thn (biI .eql v33 (I 8)) fun v34 =>
 Br v34 (
 thn (padd 0 t2) fun v35 =>
 thn (ld1 h4 v35) fun v36 =>
 thn (biI .eql v36 (I 3)) fun v37 =>
 Br v37 (
 A14_4 Q t1 t2 t5 (pt p3 0 0) h4) (
 A14_5 Q t1 t2 t5 (pt p3 0 0) (.bool true) h4)) (
 thn (padd 0 (pt p3 0 0)) fun v35 =>
 thn (ld1 h4 v35) fun v36 =>
 thn (biI .eql v36 (I 9)) fun v37 =>
 thn (padd 0 t2) fun v38 =>
 thn (ld1 h4 v38) fun v39 =>
 thn (biI .eql v39 (I 3)) fun v40 =>
 Br v40 (
 A14_4 Q t1 t2 t5 (pt p3 0 0) h4) (
 A14_5 Q t1 t2 t5 (pt p3 0 0) v37 h4))))))) (
 thn (padd 0 (pt p3 0 0)) fun v19 =>
 thn (ld1 h4 v19) fun v20 =>
 thn (biI .eql v20 (I 11)) fun v21 =>
 Br v21 (
 thn (padd 1 (pt p3 0 0)) fun v22 =>
 thn (ld1 h4 v22) fun v23 =>
 thn (padd 1 t2) fun v24 =>
 thn (ld1 h4 v24) fun v25 =>
 thn (biI .eql v23 v25) fun v26 =>
 Br v26 (
 Q (.bool false) h4) (
 A14_3 Q t1 t2 t5 (pt p3 0 0) h4)) (
 thn (padd 0 (pt p3 0 0)) fun v22 =>
 thn (ld1 h4 v22) fun v23 =>
 thn (biI .eql v23 (I 11)) fun v24 =>
 Br v24 (
 thn (padd 0 t2) fun v25 =>
 thn (ld1 h4 v25) fun v26 =>
 thn (biI .eql v26 (I 3)) fun v27 =>
 Br v27 (
 A14_4 Q t1 t2 t5 (pt p3 0 0) h4) (
 A14_5 Q t1 t2 t5 (pt p3 0 0) (.bool true) h4)) (
 thn (padd 0 (pt p3 0 0)) fun v25 =>
 thn (ld1 h4 v25) fun v26 =>
 thn (biI .eql v26 (I 8)) fun v27 =>
 Br v27 (
 thn (padd 0 t2) fun v28 =>
 thn (ld1 h4 v28) fun v29 =>
 thn (biI .eql v29 (I 3)) fun v30 =>
 Br v30 (
 A14_4 Q t1 t2 t5 (pt p3 0 0) h4) (
 A14_5 Q t1 t2 t5 (pt p3 0 0) (.bool true) h4)) (
 thn (padd 0 (pt p3 0 0)) fun v28 =>
 thn (ld1 h4 v28) fun v29 =>
 thn (biI .eql v29 (I 9)) fun v30 =>
 thn (padd 0 t2) fun v31 =>
 thn (ld1 h4 v31) fun v32 =>
 thn (biI .eql v32 (I 3)) fun v33 =>
 Br v33 (
 A14_4 Q t1 t2 t5 (pt p3 0 0) h4) (
 A14_5 Q t1 t2 t5 (pt p3 0 0) v30 h4))))))))
) : A14_2 Q t1 t2 t5 h := by intro e he; cases he; exact bF L14 (by kernel_rfl) H
theorem b14_3 {h : AH} {Q : Value → AH → Prop} {t1 t2 t5 t6 : Value} (H :
 thn (padd 0 t6) fun v0 =>
 thn (ld1 h v0) fun v1 =>
 thn (biI .eql v1 (I 11)) fun v2 =>
 Br v2 (
 thn (padd 0 t2) fun v3 =>
 thn (ld1 h v3) fun v4 =>
 thn (biI .eql v4 (I 3)) fun v5 =>
 Br v5 (
 A14_4 Q t1 t2 t5 t6 h) (
 A14_5 Q t1 t2 t5 t6 (.bool true) h)) (
 thn (padd 0 t6) fun v3 =>
 thn (ld1 h v3) fun v4 =>
 thn (biI .eql v4 (I 8)) fun v5 =>
 Br v5 (
 thn (padd 0 t2) fun v6 =>
 thn (ld1 h v6) fun v7 =>
 thn (biI .eql v7 (I 3)) fun v8 =>
 Br v8 (
 A14_4 Q t1 t2 t5 t6 h) (
 A14_5 Q t1 t2 t5 t6 (.bool true) h)) (
 thn (padd 0 t6) fun v6 =>
 thn (ld1 h v6) fun v7 =>
 thn (biI .eql v7 (I 9)) fun v8 =>
 thn (padd 0 t2) fun v9 =>
 thn (ld1 h v9) fun v10 =>
 thn (biI .eql v10 (I 3)) fun v11 =>
 Br v11 (
 A14_4 Q t1 t2 t5 t6 h) (
 A14_5 Q t1 t2 t5 t6 v8 h)))
) : A14_3 Q t1 t2 t5 t6 h := by intro e he; cases he; exact bF L14 (by kernel_rfl) H
theorem b14_4 {h : AH} {Q : Value → AH → Prop} {t1 t2 t5 t6 : Value} (H :
 thn (padd 0 t6) fun v0 =>
 thn (ld1 h v0) fun v1 =>
 thn (biI .eql v1 (I 10)) fun v2 =>
 thn (padd 0 t2) fun v3 =>
 thn (ld1 h v3) fun v4 =>
 thn (biI .eql v4 (I 0)) fun v5 =>
 Br v5 (
 A14_6 Q t1 t2 t5 t6 h) (
 A14_7 Q t1 t2 t5 v2 h)
) : A14_4 Q t1 t2 t5 t6 h := by intro e he; cases he; exact bF L14 (by kernel_rfl) H
theorem b14_5 {h : AH} {Q : Value → AH → Prop} {t1 t2 t5 t6 t7 : Value} (H :
 thn (padd 0 t2) fun v0 =>
 thn (ld1 h v0) fun v1 =>
 thn (biI .eql v1 (I 0)) fun v2 =>
 Br v2 (
 A14_6 Q t1 t2 t5 t6 h) (
 A14_7 Q t1 t2 t5 t7 h)
) : A14_5 Q t1 t2 t5 t6 t7 h := by intro e he; cases he; exact bF L14 (by kernel_rfl) H
theorem b14_6 {h : AH} {Q : Value → AH → Prop} {t1 t2 t5 t6 : Value} (H :
 thn (padd 0 t6) fun v0 =>
 thn (ld1 h v0) fun v1 =>
 thn (biI .eql v1 (I 11)) fun v2 =>
 Br v2 (
 thn (padd 4 t6) fun v3 =>
 thn (ld1 h v3) fun v4 =>
 thn (biI .eql v4 (I 0)) fun v5 =>
 thn (unV .not v5) fun v6 =>
 Br v6 (
 Q (.bool false) h) (
 A14_8 Q t1 t2 t5 h)) (
 thn (unV .not (.bool false)) fun v3 =>
 Br v3 (
 Q (.bool false) h) (
 A14_8 Q t1 t2 t5 h))
) : A14_6 Q t1 t2 t5 t6 h := by intro e he; cases he; exact bF L14 (by kernel_rfl) H
theorem b14_7 {h : AH} {Q : Value → AH → Prop} {t1 t2 t5 t7 : Value} (H :
 thn (unV .not t7) fun v0 =>
 Br v0 (
 Q (.bool false) h) (
 A14_8 Q t1 t2 t5 h)
) : A14_7 Q t1 t2 t5 t7 h := by intro e he; cases he; exact bF L14 (by kernel_rfl) H
theorem b14_8 {h : AH} {Q : Value → AH → Prop} {t1 t2 t5 : Value} (H :
 thn (biI .add t5 (I 1)) fun v0 =>
 A14_1 Q t1 t2 v0 h
) : A14_8 Q t1 t2 t5 h := by intro e he; cases he; exact bF L14 (by kernel_rfl) H
theorem c14 {h : AH} {Q : Value → AH → Prop} {a0 a1 : Value} (H : A14_0 Q a0 a1 h) : Cl Pr K 14 [a0, a1] h Q :=
  ok_enter (by kernel_rfl) (by kernel_rfl) (Eq.mp (by kernel_rfl) (H (fun i => ([a0, a1] : List Value).getD i undef) rfl))

/-! ### 17 donjon/donjonlaw12.answers: params 3, captured 0, results [tmp 6, tmp 7] -/
noncomputable def L17 : List (Option Nat × List Nat) := [(some 0, [0, 1, 2]), (some 4, [0, 4, 5, 9])]
noncomputable def A17_0 (Q : Value → AH → Prop) (t0 t1 t2 : Value) (h : AH) : Prop := Pt Pr K 17 none (retV Pr 17 Q) 32 [0, 1, 2] [.code (cc 17 2), .code (cc 17 3)] [] [t0, t1, t2] h
noncomputable def A17_1 (Q : Value → AH → Prop) (t0 t4 t5 t9 : Value) (h : AH) : Prop := Pt Pr K 17 none (retV Pr 17 Q) 32 [0, 4, 5, 9] [.code (cc 17 214), .code (cc 17 215), .inBlock 0, .code (cc 17 7)] [] [t0, t4, t5, t9] h
theorem b17_0 {h : AH} {Q : Value → AH → Prop} {t0 t1 t2 : Value} (H :
 thn (blkOf 40 t1) fun b1 =>
 alc h b1 fun p2 h0 =>
 thn (blkOf 24 t2) fun b4 =>
 alc h0 b4 fun p5 h3 =>
 thn (padd 0 (pt p2 0 0)) fun v6 =>
 thn (ld1 h3 v6) fun v7 =>
 thn (biI .eql v7 (I 0)) fun v8 =>
 Br v8 (
 thn (padd 1 (pt p2 0 0)) fun v9 =>
 thn (ldN h3 9 v9) fun v10 =>
 Cl Pr K 10 [t0, v10] h3 fun v11 h11 => -- (*donjon/home.Home).Take
 thn (extV 0 v11) fun v12 =>
 thn (extV 1 v11) fun v13 =>
 Q (.tuple ⟨[v12, v13]⟩) h11) (
 A17_1 Q t0 (pt p2 0 0) (pt p5 0 0) v7 h3)
) : A17_0 Q t0 t1 t2 h := by intro e he; cases he; exact bF L17 (by kernel_rfl) H
theorem b17_1 {h : AH} {Q : Value → AH → Prop} {t0 t4 t5 t9 : Value} (H :
 thn (biI .eql t9 (I 1)) fun v0 =>
 Br v0 (
 thn (padd 10 t4) fun v1 =>
 thn (ld1 h v1) fun v2 =>
 Cl Pr K 11 [t0, v2] h fun v3 h3 => -- (*donjon/home.Home).Sweep
 Q (.tuple ⟨[(.slice none 0 0), v3]⟩) h3) (
 thn (padd 10 t4) fun v1 =>
 thn (ld1 h v1) fun v2 =>
 thn (ldN h 1 t5) fun v3 =>
 Cl Pr K 13 [t0, v2, (.iface 24 v3)] h fun v4 h4 => -- (*donjon/home.Home).Begin
 thn (extV 0 v4) fun v5 =>
 thn (extV 1 v4) fun v6 =>
 Q (.tuple ⟨[v5, v6]⟩) h4)
) : A17_1 Q t0 t4 t5 t9 h := by intro e he; cases he; exact bF L17 (by kernel_rfl) H
theorem c17 {h : AH} {Q : Value → AH → Prop} {a0 a1 a2 : Value} (H : A17_0 Q a0 a1 a2 h) : Cl Pr K 17 [a0, a1, a2] h Q :=
  ok_enter (by kernel_rfl) (by kernel_rfl) (Eq.mp (by kernel_rfl) (H (fun i => ([a0, a1, a2] : List Value).getD i undef) rfl))

/-! ### 18 donjon/donjonlaw12.Notes: params 2, captured 0, results [tmp 4] -/
noncomputable def L18 : List (Option Nat × List Nat) := [(some 0, [0, 1]), (some 3, [0, 1]), (some 4, [0, 1, 5]), (some 6, [0, 1, 5]), (some 5, [0, 1, 5])]
noncomputable def A18_0 (Q : Value → AH → Prop) (t0 t1 : Value) (h : AH) : Prop := Pt Pr K 18 none (retV Pr 18 Q) 26 [0, 1] [.code (cc 18 2), .code (cc 18 3)] [] [t0, t1] h
noncomputable def A18_1 (Q : Value → AH → Prop) (t0 t1 : Value) (h : AH) : Prop := Pt Pr K 18 none (retV Pr 18 Q) 26 [0, 1] [.code (cc 18 28), .code (cc 18 29), .code (cc 18 15)] [] [t0, t1] h
noncomputable def A18_2 (Q : Value → AH → Prop) (t0 t1 t5 : Value) (h : AH) : Prop := Pt Pr K 18 none (retV Pr 18 Q) 26 [0, 1, 5] [.code (cc 18 464), .code (cc 18 465), .code (cc 18 233), .inLoop (cc 18 116), .inBlock 0, .code (cc 18 15)] [] [t0, t1, t5] h
noncomputable def A18_3 (Q : Value → AH → Prop) (t0 t1 t5 : Value) (h : AH) : Prop := Pt Pr K 18 none (retV Pr 18 Q) 26 [0, 1, 5] [.code (cc 18 1864), .code (cc 18 1865), .inBlock 1, .code (cc 18 467), .inLoop (cc 18 116), .inBlock 0, .code (cc 18 15)] [] [t0, t1, t5] h
noncomputable def A18_4 (Q : Value → AH → Prop) (t0 t1 t5 : Value) (h : AH) : Prop := Pt Pr K 18 none (retV Pr 18 Q) 26 [0, 1, 5] [.code (cc 18 467), .inLoop (cc 18 116), .inBlock 0, .code (cc 18 15)] [] [t0, t1, t5] h
theorem b18_0 {h : AH} {Q : Value → AH → Prop} {t0 t1 : Value} (H :
 thn (lenS t0) fun v0 =>
 thn (lenS t1) fun v1 =>
 thn (biI .neq v0 v1) fun v2 =>
 Br v2 (
 Q (.bool false) h) (
 A18_1 Q t0 t1 h)
) : A18_0 Q t0 t1 h := by intro e he; cases he; exact bF L18 (by kernel_rfl) H
theorem b18_1 {h : AH} {Q : Value → AH → Prop} {t0 t1 : Value} (H :
 A18_2 Q t0 t1 (I 0) h
) : A18_1 Q t0 t1 h := by intro e he; cases he; exact bF L18 (by kernel_rfl) H
theorem b18_2 {h : AH} {Q : Value → AH → Prop} {t0 t1 t5 : Value} (H :
 thn (lenS t0) fun v0 =>
 thn (biI .lss t5 v0) fun v1 =>
 Br v1 (
 A18_3 Q t0 t1 t5 h) (
 Q (.bool true) h)
) : A18_2 Q t0 t1 t5 h := by intro e he; cases he; exact bF L18 (by kernel_rfl) H
theorem b18_3 {h : AH} {Q : Value → AH → Prop} {t0 t1 t5 : Value} (H :
 resv h 9 fun r1 h0 =>
 thn (idxS 9 t0 t5) fun v2 =>
 thn (ldN h0 9 v2) fun v3 =>
 thn (idxS 9 t1 t5) fun v4 =>
 thn (ldN h0 9 v4) fun v5 =>
 thn (biA [0, 0, 0, 0, 0, 0, 0, 1, 0] .neq v3 v5) fun v6 =>
 Br v6 (
 Q (.bool false) h0) (
 A18_4 Q t0 t1 t5 h0)
) : A18_3 Q t0 t1 t5 h := by intro e he; cases he; exact bF L18 (by kernel_rfl) H
theorem b18_4 {h : AH} {Q : Value → AH → Prop} {t0 t1 t5 : Value} (H :
 thn (biI .add t5 (I 1)) fun v0 =>
 A18_2 Q t0 t1 v0 h
) : A18_4 Q t0 t1 t5 h := by intro e he; cases he; exact bF L18 (by kernel_rfl) H
theorem c18 {h : AH} {Q : Value → AH → Prop} {a0 a1 : Value} (H : A18_0 Q a0 a1 h) : Cl Pr K 18 [a0, a1] h Q :=
  ok_enter (by kernel_rfl) (by kernel_rfl) (Eq.mp (by kernel_rfl) (H (fun i => ([a0, a1] : List Value).getD i undef) rfl))

/-! ### 20 donjon/donjonlaw12.ints: params 2, captured 0, results [tmp 4] -/
noncomputable def L20 : List (Option Nat × List Nat) := [(some 0, [0, 1]), (some 3, [0, 1]), (some 4, [0, 1, 5]), (some 6, [0, 1, 5]), (some 5, [0, 1, 5])]
noncomputable def A20_0 (Q : Value → AH → Prop) (t0 t1 : Value) (h : AH) : Prop := Pt Pr K 20 none (retV Pr 20 Q) 26 [0, 1] [.code (cc 20 2), .code (cc 20 3)] [] [t0, t1] h
noncomputable def A20_1 (Q : Value → AH → Prop) (t0 t1 : Value) (h : AH) : Prop := Pt Pr K 20 none (retV Pr 20 Q) 26 [0, 1] [.code (cc 20 28), .code (cc 20 29), .code (cc 20 15)] [] [t0, t1] h
noncomputable def A20_2 (Q : Value → AH → Prop) (t0 t1 t5 : Value) (h : AH) : Prop := Pt Pr K 20 none (retV Pr 20 Q) 26 [0, 1, 5] [.code (cc 20 464), .code (cc 20 465), .code (cc 20 233), .inLoop (cc 20 116), .inBlock 0, .code (cc 20 15)] [] [t0, t1, t5] h
noncomputable def A20_3 (Q : Value → AH → Prop) (t0 t1 t5 : Value) (h : AH) : Prop := Pt Pr K 20 none (retV Pr 20 Q) 26 [0, 1, 5] [.code (cc 20 1864), .code (cc 20 1865), .inBlock 1, .code (cc 20 467), .inLoop (cc 20 116), .inBlock 0, .code (cc 20 15)] [] [t0, t1, t5] h
noncomputable def A20_4 (Q : Value → AH → Prop) (t0 t1 t5 : Value) (h : AH) : Prop := Pt Pr K 20 none (retV Pr 20 Q) 26 [0, 1, 5] [.code (cc 20 467), .inLoop (cc 20 116), .inBlock 0, .code (cc 20 15)] [] [t0, t1, t5] h
theorem b20_0 {h : AH} {Q : Value → AH → Prop} {t0 t1 : Value} (H :
 thn (lenS t0) fun v0 =>
 thn (lenS t1) fun v1 =>
 thn (biI .neq v0 v1) fun v2 =>
 Br v2 (
 Q (.bool false) h) (
 A20_1 Q t0 t1 h)
) : A20_0 Q t0 t1 h := by intro e he; cases he; exact bF L20 (by kernel_rfl) H
theorem b20_1 {h : AH} {Q : Value → AH → Prop} {t0 t1 : Value} (H :
 A20_2 Q t0 t1 (I 0) h
) : A20_1 Q t0 t1 h := by intro e he; cases he; exact bF L20 (by kernel_rfl) H
theorem b20_2 {h : AH} {Q : Value → AH → Prop} {t0 t1 t5 : Value} (H :
 thn (lenS t0) fun v0 =>
 thn (biI .lss t5 v0) fun v1 =>
 Br v1 (
 A20_3 Q t0 t1 t5 h) (
 Q (.bool true) h)
) : A20_2 Q t0 t1 t5 h := by intro e he; cases he; exact bF L20 (by kernel_rfl) H
theorem b20_3 {h : AH} {Q : Value → AH → Prop} {t0 t1 t5 : Value} (H :
 resv h 9 fun r1 h0 =>
 thn (idxS 1 t0 t5) fun v2 =>
 thn (ld1 h0 v2) fun v3 =>
 thn (idxS 1 t1 t5) fun v4 =>
 thn (ld1 h0 v4) fun v5 =>
 thn (biI .neq v3 v5) fun v6 =>
 Br v6 (
 Q (.bool false) h0) (
 A20_4 Q t0 t1 t5 h0)
) : A20_3 Q t0 t1 t5 h := by intro e he; cases he; exact bF L20 (by kernel_rfl) H
theorem b20_4 {h : AH} {Q : Value → AH → Prop} {t0 t1 t5 : Value} (H :
 thn (biI .add t5 (I 1)) fun v0 =>
 A20_2 Q t0 t1 v0 h
) : A20_4 Q t0 t1 t5 h := by intro e he; cases he; exact bF L20 (by kernel_rfl) H
theorem c20 {h : AH} {Q : Value → AH → Prop} {a0 a1 : Value} (H : A20_0 Q a0 a1 h) : Cl Pr K 20 [a0, a1] h Q :=
  ok_enter (by kernel_rfl) (by kernel_rfl) (Eq.mp (by kernel_rfl) (H (fun i => ([a0, a1] : List Value).getD i undef) rfl))

/-! ### 24 donjon/donjonlaw12.same: params 2, captured 0, results [cell 4 : 4] -/
noncomputable def L24 : List (Option Nat × List Nat) := [(some 0, [0, 1, 24]), (some 4, [0, 1, 4, 5, 24]), (some 6, [4, 6, 24]), (some 12, [0, 1, 4, 6, 8, 9]), (some 14, [0, 1, 4, 6, 8, 9]), (some 21, [0, 1, 4, 6, 8]), (some 16, [0, 1, 4, 6, 8, 9, 10]), (some 17, [0, 1, 4, 6, 8, 9, 10]), (some 13, [0, 1, 4, 6, 8, 9])]
noncomputable def A24_0 (ds : List Nat) (Q : Value → AH → Prop) (t0 t1 t24 : Value) (h : AH) : Prop := Pt Pr K 24 none (retV Pr 24 Q) 167 [0, 1, 24] [.code (cc 24 2), .code (cc 24 3)] ds [t0, t1, t24] h
noncomputable def A24_1 (ds : List Nat) (Q : Value → AH → Prop) (t0 t1 t4 t5 t24 : Value) (h : AH) : Prop := Pt Pr K 24 none (retV Pr 24 Q) 167 [0, 1, 4, 5, 24] [.code (cc 24 30), .code (cc 24 31)] ds [t0, t1, t4, t5, t24] h
noncomputable def A24_2 (l : Nat) (Q : Value → AH → Prop) (t4 t6 t24 : Value) (h : AH) : Prop := Pt Pr K 24 (some l) (roundOut l Q) 167 [4, 6, 24] [.code (cc 24 500), .beginRound, .code (cc 24 501)] [] [t4, t6, t24] h
noncomputable def A24_3 (ds : List Nat) (Q : Value → AH → Prop) (t0 t1 t4 t6 t8 t9 : Value) (h : AH) : Prop := Pt Pr K 24 none (retV Pr 24 Q) 167 [0, 1, 4, 6, 8, 9] [.code (cc 24 8144), .code (cc 24 8145), .code (cc 24 4073), .inLoop (cc 24 2036), .inBlock 2, .code (cc 24 255)] ds [t0, t1, t4, t6, t8, t9] h
noncomputable def A24_4 (ds : List Nat) (Q : Value → AH → Prop) (t0 t1 t4 t6 t8 t9 : Value) (h : AH) : Prop := Pt Pr K 24 none (retV Pr 24 Q) 167 [0, 1, 4, 6, 8, 9] [.code (cc 24 32584), .code (cc 24 32585), .inBlock 3, .code (cc 24 8147), .inLoop (cc 24 2036), .inBlock 2, .code (cc 24 255)] ds [t0, t1, t4, t6, t8, t9] h
noncomputable def A24_5 (ds : List Nat) (Q : Value → AH → Prop) (t0 t1 t4 t6 t8 : Value) (h : AH) : Prop := Pt Pr K 24 none (retV Pr 24 Q) 167 [0, 1, 4, 6, 8] [.code (cc 24 510), .code (cc 24 511)] ds [t0, t1, t4, t6, t8] h
noncomputable def A24_6 (ds : List Nat) (Q : Value → AH → Prop) (t0 t1 t4 t6 t8 t9 t10 : Value) (h : AH) : Prop := Pt Pr K 24 none (retV Pr 24 Q) 167 [0, 1, 4, 6, 8, 9, 10] [.code (cc 24 260682), .code (cc 24 65171), .inBlock 3, .code (cc 24 8147), .inLoop (cc 24 2036), .inBlock 2, .code (cc 24 255)] ds [t0, t1, t4, t6, t8, t9, t10] h
noncomputable def A24_7 (ds : List Nat) (Q : Value → AH → Prop) (t0 t1 t4 t6 t8 t9 t10 : Value) (h : AH) : Prop := Pt Pr K 24 none (retV Pr 24 Q) 167 [0, 1, 4, 6, 8, 9, 10] [.code (cc 24 130342), .code (cc 24 130343), .inBlock 3, .code (cc 24 8147), .inLoop (cc 24 2036), .inBlock 2, .code (cc 24 255)] ds [t0, t1, t4, t6, t8, t9, t10] h
noncomputable def A24_8 (ds : List Nat) (Q : Value → AH → Prop) (t0 t1 t4 t6 t8 t9 : Value) (h : AH) : Prop := Pt Pr K 24 none (retV Pr 24 Q) 167 [0, 1, 4, 6, 8, 9] [.code (cc 24 8147), .inLoop (cc 24 2036), .inBlock 2, .code (cc 24 255)] ds [t0, t1, t4, t6, t8, t9] h
theorem b24_0 {h : AH} {Q : Value → AH → Prop} {ds : List Nat} {t0 t1 t24 : Value} (H :
 alc h (.cells [(.bool false)] 4 (0, 0) true) fun p1 h0 =>
 Cl Pr K 43 [t0] h0 fun v2 h2 => -- (*donjon/home.Home).Ready
 thn (biF .eql v2 .nilFunc) fun v3 =>
 Br v3 (
 thn (stV h2 1 (pt p1 0 0) (.bool false)) fun h4 =>
 thn (closeMarks ds h4) fun h5 =>
 thn (ld1 h5 (pt p1 0 0)) fun v6 =>
 Q v6 h5) (
 A24_1 ds Q t0 t1 (pt p1 0 0) v2 t24 h2)
) : A24_0 ds Q t0 t1 t24 h := by intro e he; cases he; exact bD L24 (by kernel_rfl) H
theorem b24_1 {h : AH} {Q : Value → AH → Prop} {ds : List Nat} {t0 t1 t4 t5 t24 : Value} (H :
 alc h (.cells [(.slice none 0 0)] 47 (0, 0) true) fun p1 h0 =>
 alc h0 (.marks true) fun d3 h2 =>
 ∀ e9 : Nat → Value, List.map e9 [4, 6, 24] = [t4, (pt p1 0 0), t24] →
 alc h2 (lp Pr 24 (dcd 250) 167 e9 d3 .ready none) fun l4 h5 =>
 OkR Pr K t5 l4 h5 fun v6 h7 =>
 thn (endV h7 l4) fun r8 => (fun x11 h12 =>
 EndX x11 (
 A24_3 (d3 :: ds) Q t0 t1 t4 (pt p1 0 0) (.slice none 0 0) (I 0) h12) (
 thn (closeMarks (d3 :: ds) h12) fun h13 =>
 thn (ld1 h13 t4) fun v14 =>
 Q v14 h13) []) r8.1 r8.2
) : A24_1 ds Q t0 t1 t4 t5 t24 h := by intro e he; cases he; exact bD L24 (by kernel_rfl) H
theorem b24_2 {h : AH} {Q : Value → AH → Prop} {l : Nat} {t4 t6 t24 : Value} (H :
 thn (beginV h l) fun h0 =>
 thn (ld1 h0 t6) fun v1 =>
 thn (fillL [(I 0)] [(0, 1, t24)]) fun l3 =>
 alcS h0 1 3 l3 1 1 fun s4 h2 =>
 thn (appV 1 8 3 h2 v1 s4) fun r5 => (fun v6 h7 =>
 thn (stV h7 1 t6 v6) fun h8 =>
 thn (ld1 h8 t6) fun v9 =>
 thn (lenS v9) fun v10 =>
 thn (biI .gtr v10 (I 100)) fun v11 =>
 Br v11 (
 thn (stV h8 1 t4 (.bool false)) fun h12 =>
 thn (setLoop h12 l .done (some (some .ret))) fun h13 =>
 Q (.bool false) h13) (
 thn (setLoop h8 l .ready (some none)) fun h12 =>
 Q (.bool true) h12)) r5.1 r5.2
) : A24_2 l Q t4 t6 t24 h := by intro e he; cases he; exact bR L24 (by kernel_rfl) H
theorem b24_3 {h : AH} {Q : Value → AH → Prop} {ds : List Nat} {t0 t1 t4 t6 t8 t9 : Value} (H :
 thn (nilV t1) fun v0 =>
 thn (padd 1 v0) fun v1 =>
 thn (ld1 h v1) fun v2 =>
 thn (lenS v2) fun v3 =>
 thn (biI .lss t9 v3) fun v4 =>
 Br v4 (
 A24_4 ds Q t0 t1 t4 t6 t8 t9 h) (
 A24_5 ds Q t0 t1 t4 t6 t8 h)
) : A24_3 ds Q t0 t1 t4 t6 t8 t9 h := by intro e he; cases he; exact bD L24 (by kernel_rfl) H
theorem b24_4 {h : AH} {Q : Value → AH → Prop} {ds : List Nat} {t0 t1 t4 t6 t8 t9 : Value} (H :
 thn (nilV t1) fun v0 =>
 thn (padd 1 v0) fun v1 =>
 thn (ld1 h v1) fun v2 =>
 thn (idxS 21 v2 t9) fun v3 =>
 thn (ldN h 21 v3) fun v4 =>
 alc h (.cells [(I 0), (.slice none 0 0), (.slice none 0 0), (I 0), (I 0), (I 0), (I 0), (I 0), (I 0), (I 0), (.bool false), (I 0), (.bool false), (.slice none 0 0), (.bool false), (.bool false), (I 0), (I 0), (I 0), (I 0), (I 0)] 99 (0, 0) true) fun p6 h5 =>
 thn (stV h5 21 (pt p6 0 0) v4) fun h7 =>
 thn (padd 12 (pt p6 0 0)) fun v8 =>
 thn (ld1 h7 v8) fun v9 =>
 thn (unV .not v9) fun v10 =>
 Br v10 (
 thn (padd 2 (pt p6 0 0)) fun v11 =>
 thn (ld1 h7 v11) fun v12 =>
 thn (lenS v12) fun v13 =>
 thn (biI .gtr v13 (I 0)) fun v14 =>
 Br v14 (
 A24_6 ds Q t0 t1 t4 t6 t8 t9 (pt p6 0 0) h7) (
 A24_7 ds Q t0 t1 t4 t6 t8 t9 (pt p6 0 0) h7)) (
 Cl Pr K 15 [t0, t9] h7 fun v11 h11 => -- (*donjon/home.Home).Who
 thn (extV 0 v11) fun v12 =>
 thn (extV 1 v11) fun v13 =>
 thn (extV 2 v11) fun v14 =>
 thn (nilV t0) fun v15 =>
 thn (padd 0 v15) fun v16 =>
 thn (ld1 h11 v16) fun v17 =>
 Cl Pr K 19 [v17, t9] h11 fun v18 h18 => -- (*donjon/bank.Memory).Read
 thn (extV 0 v18) fun v19 =>
 thn (extV 1 v18) fun v20 =>
 alc h18 (.cells [(I 0), (I 0)] 36 (0, 0) true) fun p22 h21 =>
 thn (stV h21 2 (pt p22 0 0) v19) fun h23 =>
 resv h23 52 fun r25 h24 =>
 thn (biI .neq v14 (I 0)) fun v26 =>
 Br v26 (
 thn (stV h24 1 t4 (.bool false)) fun h27 =>
 thn (closeMarks ds h27) fun h28 =>
 thn (ld1 h28 t4) fun v29 =>
 Q v29 h28) (
 thn (biI .neq v20 (I 0)) fun v27 =>
 Br v27 (
 thn (stV h24 1 t4 (.bool false)) fun h28 =>
 thn (closeMarks ds h28) fun h29 =>
 thn (ld1 h29 t4) fun v30 =>
 Q v30 h29) (
 thn (padd 0 (pt p6 0 0)) fun v28 =>
 thn (ld1 h24 v28) fun v29 =>
 thn (biI .neq v12 v29) fun v30 =>
 Br v30 (
 thn (stV h24 1 t4 (.bool false)) fun h31 =>
 thn (closeMarks ds h31) fun h32 =>
 thn (ld1 h32 t4) fun v33 =>
 Q v33 h32) (
 Cl Pr K 44 [t1, t9] h24 fun v31 h31 => -- (*donjon/donjonref12.Home).Sharers
 Cl Pr K 20 [v13, v31] h31 fun v32 h32 => -- donjon/donjonlaw12.ints
 thn (unV .not v32) fun v33 =>
 Br v33 (
(veq v13 v13 = true) ∧ (
 thn (stV h32 1 t4 (.bool false)) fun h34 =>
 thn (closeMarks ds h34) fun h35 =>
 thn (ld1 h35 t4) fun v36 =>
 Q v36 h35)) (
 thn (ldN h32 2 (pt p22 0 0)) fun v34 =>
 thn (padd 18 (pt p6 0 0)) fun v35 =>
 thn (ldN h32 2 v35) fun v36 =>
 thn (biA [0, 0] .neq v34 v36) fun v37 =>
 Br v37 (
(veq v13 v13 = true) ∧ (
 thn (stV h32 1 t4 (.bool false)) fun h38 =>
 thn (closeMarks ds h38) fun h39 =>
 thn (ld1 h39 t4) fun v40 =>
 Q v40 h39)) (
 Cl Pr K 12 [t0, t9] h32 fun v38 h38 => -- (*donjon/home.Home).Busy
 thn (padd 12 (pt p6 0 0)) fun v39 =>
 thn (ld1 h38 v39) fun v40 =>
 thn (biB .neq v38 v40) fun v41 =>
 Br v41 (
(veq v13 v13 = true) ∧ (
(thn (padd 12 (pt p6 0 0)) fun v42 =>
 veq v42 v39 = true) ∧ (
(thn (ld1 h32 v39) fun v43 =>
 veq v43 v40 = true) ∧ (
 thn (stV h38 1 t4 (.bool false)) fun h44 =>
 thn (closeMarks ds h44) fun h45 =>
 thn (ld1 h45 t4) fun v46 =>
 Q v46 h45)))) (
 Cl Pr K 16 [t0, t9] h38 fun v42 h42 => -- (*donjon/home.Home).Waits
 thn (padd 2 (pt p6 0 0)) fun v43 =>
 thn (ld1 h42 v43) fun v44 =>
 thn (lenS v44) fun v45 =>
 thn (biI .neq v42 v45) fun v46 =>
 Br v46 (
(veq v13 v13 = true) ∧ (
(thn (padd 12 (pt p6 0 0)) fun v47 =>
 veq v47 v39 = true) ∧ (
(thn (ld1 h32 v39) fun v48 =>
 veq v48 v40 = true) ∧ (
(thn (padd 2 (pt p6 0 0)) fun v49 =>
 veq v49 v43 = true) ∧ (
(thn (ld1 h38 v43) fun v50 =>
 veq v50 v44 = true) ∧ (
(thn (lenS v44) fun v51 =>
 veq v51 v45 = true) ∧ (
 thn (stV h42 1 t4 (.bool false)) fun h52 =>
 thn (closeMarks ds h52) fun h53 =>
 thn (ld1 h53 t4) fun v54 =>
 Q v54 h53))))))) (
 Cl Pr K 21 [t0, t9] h42 fun v47 h47 => -- (*donjon/home.Home).Sweeps
 Cl Pr K 45 [t1, t9] h47 fun v48 h48 => -- (*donjon/donjonref12.Home).Sweeps
 thn (biI .neq v47 v48) fun v49 =>
(veq v13 v13 = true) ∧ (
(thn (padd 12 (pt p6 0 0)) fun v50 =>
 veq v50 v39 = true) ∧ (
(thn (ld1 h32 v39) fun v51 =>
 veq v51 v40 = true) ∧ (
(thn (padd 2 (pt p6 0 0)) fun v52 =>
 veq v52 v43 = true) ∧ (
(thn (ld1 h38 v43) fun v53 =>
 veq v53 v44 = true) ∧ (
(thn (lenS v44) fun v54 =>
 veq v54 v45 = true) ∧ (
(veq t1 t1 = true) ∧ (
(veq t9 t9 = true) ∧ (
 Br v49 (
 thn (stV h48 1 t4 (.bool false)) fun h55 =>
 thn (closeMarks ds h55) fun h56 =>
 thn (ld1 h56 t4) fun v57 =>
 Q v57 h56) (
 A24_8 ds Q t0 t1 t4 t6 t8 t9 h48)))))))))))))))))
) : A24_4 ds Q t0 t1 t4 t6 t8 t9 h := by intro e he; cases he; exact bD L24 (by kernel_rfl) H
theorem b24_5 {h : AH} {Q : Value → AH → Prop} {ds : List Nat} {t0 t1 t4 t6 t8 : Value} (H :
 thn (nilV t1) fun v0 =>
 thn (padd 1 v0) fun v1 =>
 thn (ld1 h v1) fun v2 =>
 thn (lenS v2) fun v3 =>
 Cl Pr K 15 [t0, v3] h fun v4 h4 => -- (*donjon/home.Home).Who
 thn (extV 0 v4) fun v5 =>
 thn (extV 1 v4) fun v6 =>
 thn (extV 2 v4) fun v7 =>
 thn (ld1 h4 t6) fun v8 =>
 Cl Pr K 20 [v8, t8] h4 fun v9 h9 => -- donjon/donjonlaw12.ints
 Br v9 (
 thn (biI .eql v7 (I 10)) fun v10 =>
 Br v10 (
 Cl Pr K 12 [t0, (I (-1))] h9 fun v11 h11 => -- (*donjon/home.Home).Busy
 thn (unV .not v11) fun v12 =>
 Br v12 (
 thn (nilV t1) fun v13 =>
 thn (padd 1 v13) fun v14 =>
 thn (ld1 h11 v14) fun v15 =>
 thn (lenS v15) fun v16 =>
 Cl Pr K 16 [t0, v16] h11 fun v17 h17 => -- (*donjon/home.Home).Waits
 thn (biI .eql v17 (I 0)) fun v18 =>
 Br v18 (
 Cl Pr K 21 [t0, (I (-1))] h17 fun v19 h19 => -- (*donjon/home.Home).Sweeps
 thn (biI .eql v19 (I 0)) fun v20 =>
 thn (stV h19 1 t4 v20) fun h21 =>
 thn (closeMarks ds h21) fun h22 =>
 thn (ld1 h22 t4) fun v23 =>
 Q v23 h22) (
 thn (stV h17 1 t4 (.bool false)) fun h19 =>
 thn (closeMarks ds h19) fun h20 =>
 thn (ld1 h20 t4) fun v21 =>
 Q v21 h20)) (
 thn (stV h11 1 t4 (.bool false)) fun h13 =>
 thn (closeMarks ds h13) fun h14 =>
 thn (ld1 h14 t4) fun v15 =>
 Q v15 h14)) (
 thn (stV h9 1 t4 (.bool false)) fun h11 =>
 thn (closeMarks ds h11) fun h12 =>
 thn (ld1 h12 t4) fun v13 =>
 Q v13 h12)) (
 thn (stV h9 1 t4 (.bool false)) fun h10 =>
 thn (closeMarks ds h10) fun h11 =>
 thn (ld1 h11 t4) fun v12 =>
 Q v12 h11)
) : A24_5 ds Q t0 t1 t4 t6 t8 h := by intro e he; cases he; exact bD L24 (by kernel_rfl) H
theorem b24_6 {h : AH} {Q : Value → AH → Prop} {ds : List Nat} {t0 t1 t4 t6 t8 t9 t10 : Value} (H :
 thn (fillL [(I 0)] [(0, 1, t9)]) fun l1 =>
 alcS h 1 3 l1 1 1 fun s2 h0 =>
 thn (appV 1 8 3 h0 t8 s2) fun r3 => (fun v4 h5 =>
 Cl Pr K 15 [t0, t9] h5 fun v6 h6 => -- (*donjon/home.Home).Who
 thn (extV 0 v6) fun v7 =>
 thn (extV 1 v6) fun v8 =>
 thn (extV 2 v6) fun v9 =>
 thn (nilV t0) fun v10 =>
 thn (padd 0 v10) fun v11 =>
 thn (ld1 h6 v11) fun v12 =>
 Cl Pr K 19 [v12, t9] h6 fun v13 h13 => -- (*donjon/bank.Memory).Read
 thn (extV 0 v13) fun v14 =>
 thn (extV 1 v13) fun v15 =>
 alc h13 (.cells [(I 0), (I 0)] 36 (0, 0) true) fun p17 h16 =>
 thn (stV h16 2 (pt p17 0 0) v14) fun h18 =>
 resv h18 52 fun r20 h19 =>
 thn (biI .neq v9 (I 0)) fun v21 =>
 Br v21 (
 thn (stV h19 1 t4 (.bool false)) fun h22 =>
 thn (closeMarks ds h22) fun h23 =>
 thn (ld1 h23 t4) fun v24 =>
 Q v24 h23) (
 thn (biI .neq v15 (I 0)) fun v22 =>
 Br v22 (
 thn (stV h19 1 t4 (.bool false)) fun h23 =>
 thn (closeMarks ds h23) fun h24 =>
 thn (ld1 h24 t4) fun v25 =>
 Q v25 h24) (
 thn (padd 0 t10) fun v23 =>
 thn (ld1 h19 v23) fun v24 =>
 thn (biI .neq v7 v24) fun v25 =>
 Br v25 (
 thn (stV h19 1 t4 (.bool false)) fun h26 =>
 thn (closeMarks ds h26) fun h27 =>
 thn (ld1 h27 t4) fun v28 =>
 Q v28 h27) (
 Cl Pr K 44 [t1, t9] h19 fun v26 h26 => -- (*donjon/donjonref12.Home).Sharers
 Cl Pr K 20 [v8, v26] h26 fun v27 h27 => -- donjon/donjonlaw12.ints
 thn (unV .not v27) fun v28 =>
 Br v28 (
(veq v8 v8 = true) ∧ (
 thn (stV h27 1 t4 (.bool false)) fun h29 =>
 thn (closeMarks ds h29) fun h30 =>
 thn (ld1 h30 t4) fun v31 =>
 Q v31 h30)) (
 thn (ldN h27 2 (pt p17 0 0)) fun v29 =>
 thn (padd 18 t10) fun v30 =>
 thn (ldN h27 2 v30) fun v31 =>
 thn (biA [0, 0] .neq v29 v31) fun v32 =>
 Br v32 (
(veq v8 v8 = true) ∧ (
 thn (stV h27 1 t4 (.bool false)) fun h33 =>
 thn (closeMarks ds h33) fun h34 =>
 thn (ld1 h34 t4) fun v35 =>
 Q v35 h34)) (
 Cl Pr K 12 [t0, t9] h27 fun v33 h33 => -- (*donjon/home.Home).Busy
 thn (padd 12 t10) fun v34 =>
 thn (ld1 h33 v34) fun v35 =>
 thn (biB .neq v33 v35) fun v36 =>
 Br v36 (
(veq v8 v8 = true) ∧ (
(thn (padd 12 t10) fun v37 =>
 veq v37 v34 = true) ∧ (
(thn (ld1 h27 v34) fun v38 =>
 veq v38 v35 = true) ∧ (
 thn (stV h33 1 t4 (.bool false)) fun h39 =>
 thn (closeMarks ds h39) fun h40 =>
 thn (ld1 h40 t4) fun v41 =>
 Q v41 h40)))) (
 Cl Pr K 16 [t0, t9] h33 fun v37 h37 => -- (*donjon/home.Home).Waits
 thn (padd 2 t10) fun v38 =>
 thn (ld1 h37 v38) fun v39 =>
 thn (lenS v39) fun v40 =>
 thn (biI .neq v37 v40) fun v41 =>
 Br v41 (
(veq v8 v8 = true) ∧ (
(thn (padd 12 t10) fun v42 =>
 veq v42 v34 = true) ∧ (
(thn (ld1 h27 v34) fun v43 =>
 veq v43 v35 = true) ∧ (
(thn (padd 2 t10) fun v44 =>
 veq v44 v38 = true) ∧ (
(thn (ld1 h33 v38) fun v45 =>
 veq v45 v39 = true) ∧ (
(thn (lenS v39) fun v46 =>
 veq v46 v40 = true) ∧ (
 thn (stV h37 1 t4 (.bool false)) fun h47 =>
 thn (closeMarks ds h47) fun h48 =>
 thn (ld1 h48 t4) fun v49 =>
 Q v49 h48))))))) (
 Cl Pr K 21 [t0, t9] h37 fun v42 h42 => -- (*donjon/home.Home).Sweeps
 Cl Pr K 45 [t1, t9] h42 fun v43 h43 => -- (*donjon/donjonref12.Home).Sweeps
 thn (biI .neq v42 v43) fun v44 =>
(veq v8 v8 = true) ∧ (
(thn (padd 12 t10) fun v45 =>
 veq v45 v34 = true) ∧ (
(thn (ld1 h27 v34) fun v46 =>
 veq v46 v35 = true) ∧ (
(thn (padd 2 t10) fun v47 =>
 veq v47 v38 = true) ∧ (
(thn (ld1 h33 v38) fun v48 =>
 veq v48 v39 = true) ∧ (
(thn (lenS v39) fun v49 =>
 veq v49 v40 = true) ∧ (
(veq t1 t1 = true) ∧ (
(veq t9 t9 = true) ∧ (
 Br v44 (
 thn (stV h43 1 t4 (.bool false)) fun h50 =>
 thn (closeMarks ds h50) fun h51 =>
 thn (ld1 h51 t4) fun v52 =>
 Q v52 h51) (
 A24_8 ds Q t0 t1 t4 t6 v4 t9 h43))))))))))))))))) r3.1 r3.2
) : A24_6 ds Q t0 t1 t4 t6 t8 t9 t10 h := by intro e he; cases he; exact bD L24 (by kernel_rfl) H
theorem b24_7 {h : AH} {Q : Value → AH → Prop} {ds : List Nat} {t0 t1 t4 t6 t8 t9 t10 : Value} (H :
 Cl Pr K 15 [t0, t9] h fun v0 h0 => -- (*donjon/home.Home).Who
 thn (extV 0 v0) fun v1 =>
 thn (extV 1 v0) fun v2 =>
 thn (extV 2 v0) fun v3 =>
 thn (nilV t0) fun v4 =>
 thn (padd 0 v4) fun v5 =>
 thn (ld1 h0 v5) fun v6 =>
 Cl Pr K 19 [v6, t9] h0 fun v7 h7 => -- (*donjon/bank.Memory).Read
 thn (extV 0 v7) fun v8 =>
 thn (extV 1 v7) fun v9 =>
 alc h7 (.cells [(I 0), (I 0)] 36 (0, 0) true) fun p11 h10 =>
 thn (stV h10 2 (pt p11 0 0) v8) fun h12 =>
 resv h12 52 fun r14 h13 =>
 thn (biI .neq v3 (I 0)) fun v15 =>
 Br v15 (
 thn (stV h13 1 t4 (.bool false)) fun h16 =>
 thn (closeMarks ds h16) fun h17 =>
 thn (ld1 h17 t4) fun v18 =>
 Q v18 h17) (
 thn (biI .neq v9 (I 0)) fun v16 =>
 Br v16 (
 thn (stV h13 1 t4 (.bool false)) fun h17 =>
 thn (closeMarks ds h17) fun h18 =>
 thn (ld1 h18 t4) fun v19 =>
 Q v19 h18) (
 thn (padd 0 t10) fun v17 =>
 thn (ld1 h13 v17) fun v18 =>
 thn (biI .neq v1 v18) fun v19 =>
 Br v19 (
 thn (stV h13 1 t4 (.bool false)) fun h20 =>
 thn (closeMarks ds h20) fun h21 =>
 thn (ld1 h21 t4) fun v22 =>
 Q v22 h21) (
 Cl Pr K 44 [t1, t9] h13 fun v20 h20 => -- (*donjon/donjonref12.Home).Sharers
 Cl Pr K 20 [v2, v20] h20 fun v21 h21 => -- donjon/donjonlaw12.ints
 thn (unV .not v21) fun v22 =>
 Br v22 (
(veq v2 v2 = true) ∧ (
 thn (stV h21 1 t4 (.bool false)) fun h23 =>
 thn (closeMarks ds h23) fun h24 =>
 thn (ld1 h24 t4) fun v25 =>
 Q v25 h24)) (
 thn (ldN h21 2 (pt p11 0 0)) fun v23 =>
 thn (padd 18 t10) fun v24 =>
 thn (ldN h21 2 v24) fun v25 =>
 thn (biA [0, 0] .neq v23 v25) fun v26 =>
 Br v26 (
(veq v2 v2 = true) ∧ (
 thn (stV h21 1 t4 (.bool false)) fun h27 =>
 thn (closeMarks ds h27) fun h28 =>
 thn (ld1 h28 t4) fun v29 =>
 Q v29 h28)) (
 Cl Pr K 12 [t0, t9] h21 fun v27 h27 => -- (*donjon/home.Home).Busy
 thn (padd 12 t10) fun v28 =>
 thn (ld1 h27 v28) fun v29 =>
 thn (biB .neq v27 v29) fun v30 =>
 Br v30 (
(veq v2 v2 = true) ∧ (
(thn (padd 12 t10) fun v31 =>
 veq v31 v28 = true) ∧ (
(thn (ld1 h21 v28) fun v32 =>
 veq v32 v29 = true) ∧ (
 thn (stV h27 1 t4 (.bool false)) fun h33 =>
 thn (closeMarks ds h33) fun h34 =>
 thn (ld1 h34 t4) fun v35 =>
 Q v35 h34)))) (
 Cl Pr K 16 [t0, t9] h27 fun v31 h31 => -- (*donjon/home.Home).Waits
 thn (padd 2 t10) fun v32 =>
 thn (ld1 h31 v32) fun v33 =>
 thn (lenS v33) fun v34 =>
 thn (biI .neq v31 v34) fun v35 =>
 Br v35 (
(veq v2 v2 = true) ∧ (
(thn (padd 12 t10) fun v36 =>
 veq v36 v28 = true) ∧ (
(thn (ld1 h21 v28) fun v37 =>
 veq v37 v29 = true) ∧ (
(thn (padd 2 t10) fun v38 =>
 veq v38 v32 = true) ∧ (
(thn (ld1 h27 v32) fun v39 =>
 veq v39 v33 = true) ∧ (
(thn (lenS v33) fun v40 =>
 veq v40 v34 = true) ∧ (
 thn (stV h31 1 t4 (.bool false)) fun h41 =>
 thn (closeMarks ds h41) fun h42 =>
 thn (ld1 h42 t4) fun v43 =>
 Q v43 h42))))))) (
 Cl Pr K 21 [t0, t9] h31 fun v36 h36 => -- (*donjon/home.Home).Sweeps
 Cl Pr K 45 [t1, t9] h36 fun v37 h37 => -- (*donjon/donjonref12.Home).Sweeps
 thn (biI .neq v36 v37) fun v38 =>
(veq v2 v2 = true) ∧ (
(thn (padd 12 t10) fun v39 =>
 veq v39 v28 = true) ∧ (
(thn (ld1 h21 v28) fun v40 =>
 veq v40 v29 = true) ∧ (
(thn (padd 2 t10) fun v41 =>
 veq v41 v32 = true) ∧ (
(thn (ld1 h27 v32) fun v42 =>
 veq v42 v33 = true) ∧ (
(thn (lenS v33) fun v43 =>
 veq v43 v34 = true) ∧ (
(veq t1 t1 = true) ∧ (
(veq t9 t9 = true) ∧ (
 Br v38 (
 thn (stV h37 1 t4 (.bool false)) fun h44 =>
 thn (closeMarks ds h44) fun h45 =>
 thn (ld1 h45 t4) fun v46 =>
 Q v46 h45) (
 A24_8 ds Q t0 t1 t4 t6 t8 t9 h37))))))))))))))))
) : A24_7 ds Q t0 t1 t4 t6 t8 t9 t10 h := by intro e he; cases he; exact bD L24 (by kernel_rfl) H
theorem b24_8 {h : AH} {Q : Value → AH → Prop} {ds : List Nat} {t0 t1 t4 t6 t8 t9 : Value} (H :
 thn (biI .add t9 (I 1)) fun v0 =>
 A24_3 ds Q t0 t1 t4 t6 t8 v0 h
) : A24_8 ds Q t0 t1 t4 t6 t8 t9 h := by intro e he; cases he; exact bD L24 (by kernel_rfl) H
theorem c24 {h : AH} {Q : Value → AH → Prop} {a0 a1 : Value} (H : A24_0 [] Q a0 a1 undef h) : Cl Pr K 24 [a0, a1] h Q :=
  ok_enter (by kernel_rfl) (by kernel_rfl) (Eq.mp (by kernel_rfl) (H (fun i => ([a0, a1] : List Value).getD i undef) rfl))
theorem r24_0 {h : AH} {Q : Value → AH → Prop} {l d : Nat} {e : Nat → Value} {st : LoopState} {pd : Option Code} {t4 t6 t24 : Value} {a0 : Value} (hg : h.get l = some (lp Pr 24 (dcd 250) 167 e d st pd)) (he : List.map e [4, 6, 24] = [t4, t6, t24]) (H : A24_2 l Q t4 t6 a0 h) : OkF Pr K (.func (.yield l) #[] #[]) [a0] h Q := by
  cases he; refine okF_round ?_; exact enter_lp (lv := [4, 6, 24]) (vs := [e 4, e 6, a0]) hg (by kernel_rfl) (by kernel_rfl) (Eq.mp (by kernel_rfl) H)

end Go.Proofs.YtagcnlaofkfpjaaDoor
end
