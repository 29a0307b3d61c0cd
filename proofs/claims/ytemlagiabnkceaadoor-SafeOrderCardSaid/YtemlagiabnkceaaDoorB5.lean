/- A part of the proof. -/
import Derived.Test.YtemlagiabnkceaaDoorChecked
import Derived.Test.YtemlagiabnkceaaDoorB4
import Derived.KernelRfl
section
namespace Go.Proofs.YtemlagiabnkceaaDoor
open Go Go.Ab
set_option maxRecDepth 100000
noncomputable abbrev Pr : Program := Tryd.prog
noncomputable def cc (f n : Nat) : Code := cd Pr f (dcd n)
noncomputable def K0 : FuncId → List Value → Option Ans := fun _ _ => none
noncomputable def K : FuncId → List Value → Option Ans := addK K0 5 (.bool true)
/-! ### 3 donjon/donjonlaw17.SafeOrder: params 1, captured 0, results [tmp 2] -/
noncomputable def L3 : List (Option Nat × List Nat) := [(some 0, [0]), (some 3, [1]), (some 5, [1, 3, 4]), (some 7, [1, 3, 4]), (some 8, [1, 3]), (some 9, [1, 3, 5]), (some 11, [1, 3, 5]), (some 12, [1, 3]), (some 13, [1, 3, 6]), (some 15, [1, 3, 6]), (some 16, [1, 3])]
noncomputable def A3_0 (Q : Value → AH → Prop) (t0 : Value) (h : AH) : Prop := Pt Pr K 3 none (retV Pr 3 Q) 97 [0] [.code (cc 3 2), .code (cc 3 3)] [] [t0] h
noncomputable def A3_1 (Q : Value → AH → Prop) (t1 : Value) (h : AH) : Prop := Pt Pr K 3 none (retV Pr 3 Q) 97 [1] [.code (cc 3 14), .code (cc 3 15)] [] [t1] h
noncomputable def A3_2 (Q : Value → AH → Prop) (t1 t3 t4 : Value) (h : AH) : Prop := Pt Pr K 3 none (retV Pr 3 Q) 97 [1, 3, 4] [.code (cc 3 976), .code (cc 3 977), .code (cc 3 489), .inLoop (cc 3 244), .inBlock 0, .code (cc 3 31)] [] [t1, t3, t4] h
noncomputable def A3_3 (Q : Value → AH → Prop) (t1 t3 t4 : Value) (h : AH) : Prop := Pt Pr K 3 none (retV Pr 3 Q) 97 [1, 3, 4] [.code (cc 3 1956), .inBlock 1, .code (cc 3 979), .inLoop (cc 3 244), .inBlock 0, .code (cc 3 31)] [] [t1, t3, t4] h
noncomputable def A3_4 (Q : Value → AH → Prop) (t1 t3 : Value) (h : AH) : Prop := Pt Pr K 3 none (retV Pr 3 Q) 97 [1, 3] [.code (cc 3 124), .code (cc 3 125), .code (cc 3 63)] [] [t1, t3] h
noncomputable def A3_5 (Q : Value → AH → Prop) (t1 t3 t5 : Value) (h : AH) : Prop := Pt Pr K 3 none (retV Pr 3 Q) 97 [1, 3, 5] [.code (cc 3 2000), .code (cc 3 2001), .code (cc 3 1001), .inLoop (cc 3 500), .inBlock 2, .code (cc 3 63)] [] [t1, t3, t5] h
noncomputable def A3_6 (Q : Value → AH → Prop) (t1 t3 t5 : Value) (h : AH) : Prop := Pt Pr K 3 none (retV Pr 3 Q) 97 [1, 3, 5] [.code (cc 3 4004), .inBlock 3, .code (cc 3 2003), .inLoop (cc 3 500), .inBlock 2, .code (cc 3 63)] [] [t1, t3, t5] h
noncomputable def A3_7 (Q : Value → AH → Prop) (t1 t3 : Value) (h : AH) : Prop := Pt Pr K 3 none (retV Pr 3 Q) 97 [1, 3] [.code (cc 3 252), .code (cc 3 253), .code (cc 3 127)] [] [t1, t3] h
noncomputable def A3_8 (Q : Value → AH → Prop) (t1 t3 t6 : Value) (h : AH) : Prop := Pt Pr K 3 none (retV Pr 3 Q) 97 [1, 3, 6] [.code (cc 3 4048), .code (cc 3 4049), .code (cc 3 2025), .inLoop (cc 3 1012), .inBlock 4, .code (cc 3 127)] [] [t1, t3, t6] h
noncomputable def A3_9 (Q : Value → AH → Prop) (t1 t3 t6 : Value) (h : AH) : Prop := Pt Pr K 3 none (retV Pr 3 Q) 97 [1, 3, 6] [.code (cc 3 8100), .inBlock 5, .code (cc 3 4051), .inLoop (cc 3 1012), .inBlock 4, .code (cc 3 127)] [] [t1, t3, t6] h
noncomputable def A3_10 (Q : Value → AH → Prop) (t1 t3 : Value) (h : AH) : Prop := Pt Pr K 3 none (retV Pr 3 Q) 97 [1, 3] [.code (cc 3 254), .code (cc 3 255)] [] [t1, t3] h
theorem b3_0 {h : AH} {Q : Value → AH → Prop} {t0 : Value} (H :
 thn (blkOf 28 t0) fun b1 =>
 alc h b1 fun p2 h0 =>
 thn (ldN h0 5 (pt p2 0 0)) fun v3 =>
 Cl Pr K 4 [v3] h0 fun v4 h4 => -- donjon/donjonlaw17.few
 thn (unV .not v4) fun v5 =>
 Br v5 (
 Cl Pr K 5 [] h4 fun v6 h6 => -- donjon/donjonlaw17.awake
 Q v6 h6) (
 A3_1 Q (pt p2 0 0) h4)
) : A3_0 Q t0 h := by intro e he; cases he; exact bF L3 (by kernel_rfl) H
theorem b3_1 {h : AH} {Q : Value → AH → Prop} {t1 : Value} (H :
 thn (padd 2 t1) fun v0 =>
 thn (ld1 h v0) fun v1 =>
 thn (padd 4 t1) fun v2 =>
 thn (ld1 h v2) fun v3 =>
 thn (fillL [(.slice none 0 0), (.slice none 0 0), (.slice none 0 0), (.slice none 0 0), (.slice none 0 0)] [(2, 1, v1), (4, 1, v3)]) fun c4 =>
 alc h (.cells [(.slice none 0 0), (.slice none 0 0), (.slice none 0 0), (.slice none 0 0), (.slice none 0 0)] 28 (0, 0) true) fun p6 h5 =>
 thn (stV h5 5 (pt p6 0 0) (.agg ⟨c4⟩)) fun h7 =>
 thn (padd 0 t1) fun v8 =>
 thn (ld1 h7 v8) fun v9 =>
 thn (lenS v9) fun v10 =>
 thn (biI .sub v10 (I 1)) fun v11 =>
 A3_2 Q t1 (pt p6 0 0) v11 h7
) : A3_1 Q t1 h := by intro e he; cases he; exact bF L3 (by kernel_rfl) H
theorem b3_2 {h : AH} {Q : Value → AH → Prop} {t1 t3 t4 : Value} (H :
 thn (biI .geq t4 (I 0)) fun v0 =>
 Br v0 (
 A3_3 Q t1 t3 t4 h) (
 A3_4 Q t1 t3 h)
) : A3_2 Q t1 t3 t4 h := by intro e he; cases he; exact bF L3 (by kernel_rfl) H
theorem b3_3 {h : AH} {Q : Value → AH → Prop} {t1 t3 t4 : Value} (H :
 resv h 11 fun r1 h0 =>
 thn (padd 0 t3) fun v2 =>
 thn (ld1 h0 v2) fun v3 =>
 thn (padd 0 t1) fun v4 =>
 thn (ld1 h0 v4) fun v5 =>
 thn (idxS 6 v5 t4) fun v6 =>
 thn (ldN h0 6 v6) fun v7 =>
 thn (fillL [(I 0), (I 0), (I 0), (I 0), (I 0), (I 0)] [(0, 6, v7)]) fun l9 =>
 alcSAt h0 (r1 + 7) 6 34 l9 1 1 fun s10 h8 =>
 thn (appV 6 48 34 h8 v3 s10) fun r11 => (fun v12 h13 =>
 thn (padd 0 t3) fun v14 =>
 thn (stV h13 1 v14 v12) fun h15 =>
 thn (biI .sub t4 (I 1)) fun v16 =>
 A3_2 Q t1 t3 v16 h15) r11.1 r11.2
) : A3_3 Q t1 t3 t4 h := by intro e he; cases he; exact bF L3 (by kernel_rfl) H
theorem b3_4 {h : AH} {Q : Value → AH → Prop} {t1 t3 : Value} (H :
 thn (padd 1 t1) fun v0 =>
 thn (ld1 h v0) fun v1 =>
 thn (lenS v1) fun v2 =>
 thn (biI .sub v2 (I 1)) fun v3 =>
 A3_5 Q t1 t3 v3 h
) : A3_4 Q t1 t3 h := by intro e he; cases he; exact bF L3 (by kernel_rfl) H
theorem b3_5 {h : AH} {Q : Value → AH → Prop} {t1 t3 t5 : Value} (H :
 thn (biI .geq t5 (I 0)) fun v0 =>
 Br v0 (
 A3_6 Q t1 t3 t5 h) (
 A3_7 Q t1 t3 h)
) : A3_5 Q t1 t3 t5 h := by intro e he; cases he; exact bF L3 (by kernel_rfl) H
theorem b3_6 {h : AH} {Q : Value → AH → Prop} {t1 t3 t5 : Value} (H :
 resv h 11 fun r1 h0 =>
 thn (padd 1 t3) fun v2 =>
 thn (ld1 h0 v2) fun v3 =>
 thn (padd 1 t1) fun v4 =>
 thn (ld1 h0 v4) fun v5 =>
 thn (idxS 3 v5 t5) fun v6 =>
 thn (ldN h0 3 v6) fun v7 =>
 thn (fillL [(I 0), (I 0), (I 0)] [(0, 3, v7)]) fun l9 =>
 alcSAt h0 (r1 + 7) 3 36 l9 1 1 fun s10 h8 =>
 thn (appV 3 24 36 h8 v3 s10) fun r11 => (fun v12 h13 =>
 thn (padd 1 t3) fun v14 =>
 thn (stV h13 1 v14 v12) fun h15 =>
 thn (biI .sub t5 (I 1)) fun v16 =>
 A3_5 Q t1 t3 v16 h15) r11.1 r11.2
) : A3_6 Q t1 t3 t5 h := by intro e he; cases he; exact bF L3 (by kernel_rfl) H
theorem b3_7 {h : AH} {Q : Value → AH → Prop} {t1 t3 : Value} (H :
 thn (padd 3 t1) fun v0 =>
 thn (ld1 h v0) fun v1 =>
 thn (lenS v1) fun v2 =>
 thn (biI .sub v2 (I 1)) fun v3 =>
 A3_8 Q t1 t3 v3 h
) : A3_7 Q t1 t3 h := by intro e he; cases he; exact bF L3 (by kernel_rfl) H
theorem b3_8 {h : AH} {Q : Value → AH → Prop} {t1 t3 t6 : Value} (H :
 thn (biI .geq t6 (I 0)) fun v0 =>
 Br v0 (
 A3_9 Q t1 t3 t6 h) (
 A3_10 Q t1 t3 h)
) : A3_8 Q t1 t3 t6 h := by intro e he; cases he; exact bF L3 (by kernel_rfl) H
theorem b3_9 {h : AH} {Q : Value → AH → Prop} {t1 t3 t6 : Value} (H :
 resv h 11 fun r1 h0 =>
 thn (padd 3 t3) fun v2 =>
 thn (ld1 h0 v2) fun v3 =>
 thn (padd 3 t1) fun v4 =>
 thn (ld1 h0 v4) fun v5 =>
 thn (idxS 9 v5 t6) fun v6 =>
 thn (ldN h0 9 v6) fun v7 =>
 thn (fillL [(I 0), (I 0), (I 0), (I 0), (I 0), (I 0), (I 0), (.bool false), (I 0)] [(0, 9, v7)]) fun l9 =>
 alcSAt h0 (r1 + 7) 9 38 l9 1 1 fun s10 h8 =>
 thn (appV 9 72 38 h8 v3 s10) fun r11 => (fun v12 h13 =>
 thn (padd 3 t3) fun v14 =>
 thn (stV h13 1 v14 v12) fun h15 =>
 thn (biI .sub t6 (I 1)) fun v16 =>
 A3_8 Q t1 t3 v16 h15) r11.1 r11.2
) : A3_9 Q t1 t3 t6 h := by intro e he; cases he; exact bF L3 (by kernel_rfl) H
theorem b3_10 {h : AH} {Q : Value → AH → Prop} {t1 t3 : Value} (H :
 resv h 9 fun r1 h0 =>
 Cl Pr K 7 [] h0 fun v2 h2 => -- donjon/donjonlaw17.small
 thn (ldN h2 5 t1) fun v3 =>
 Cl Pr K 6 [v2, v3] h2 fun v4 h4 => -- donjon/safe.Check
 thn (extV 0 v4) fun v5 =>
 thn (extV 1 v4) fun v6 =>
 alcAt h4 (r1 + 6) (.cells [(I 0), (I 0)] 40 (0, 0) true) fun p8 h7 =>
 thn (stV h7 2 (pt p8 0 0) v5) fun h9 =>
(thn (ldN h0 5 t1) fun v10 =>
 veq v10 v3 = true) ∧ (
(thn (extV 1 v4) fun v11 =>
 veq v11 v6 = true) ∧ (
 resv h9 9 fun r13 h12 =>
 Cl Pr K 7 [] h12 fun v14 h14 => -- donjon/donjonlaw17.small
 thn (ldN h14 5 t3) fun v15 =>
 Cl Pr K 6 [v14, v15] h14 fun v16 h16 => -- donjon/safe.Check
 thn (extV 0 v16) fun v17 =>
 thn (extV 1 v16) fun v18 =>
 alcAt h16 (r13 + 6) (.cells [(I 0), (I 0)] 40 (0, 0) true) fun p20 h19 =>
 thn (stV h19 2 (pt p20 0 0) v17) fun h21 =>
(thn (ldN h12 5 t3) fun v22 =>
 veq v22 v15 = true) ∧ (
(thn (extV 1 v16) fun v23 =>
 veq v23 v18 = true) ∧ (
 thn (ldN h21 2 (pt p8 0 0)) fun v24 =>
 thn (ldN h21 2 (pt p20 0 0)) fun v25 =>
 thn (biA [0, 0] .eql v24 v25) fun v26 =>
 Br v26 (
 thn (biI .eql v6 v18) fun v27 =>
 Br v27 (
 Cl Pr K 5 [] h21 fun v28 h28 => -- donjon/donjonlaw17.awake
 Q v28 h28) (
 Q (.bool false) h21)) (
 Q (.bool false) h21)))))
) : A3_10 Q t1 t3 h := by intro e he; cases he; exact bF L3 (by kernel_rfl) H
theorem c3 {h : AH} {Q : Value → AH → Prop} {a0 : Value} (H : A3_0 Q a0 h) : Cl Pr K 3 [a0] h Q :=
  ok_enter (by kernel_rfl) (by kernel_rfl) (Eq.mp (by kernel_rfl) (H (fun i => ([a0] : List Value).getD i undef) rfl))

/-! ### 4 donjon/donjonlaw17.few: params 1, captured 0, results [tmp 2] -/
noncomputable def L4 : List (Option Nat × List Nat) := [(some 0, [0])]
noncomputable def A4_0 (Q : Value → AH → Prop) (t0 : Value) (h : AH) : Prop := Pt Pr K 4 none (retV Pr 4 Q) 31 [0] [.code (cc 4 2), .code (cc 4 3)] [] [t0] h
theorem b4_0 {h : AH} {Q : Value → AH → Prop} {t0 : Value} (H :
 thn (blkOf 28 t0) fun b1 =>
 alc h b1 fun p2 h0 =>
 thn (padd 0 (pt p2 0 0)) fun v3 =>
 thn (ld1 h0 v3) fun v4 =>
 thn (lenS v4) fun v5 =>
 thn (biI .leq v5 (I 40)) fun v6 =>
 Br v6 (
 thn (padd 1 (pt p2 0 0)) fun v7 =>
 thn (ld1 h0 v7) fun v8 =>
 thn (lenS v8) fun v9 =>
 thn (biI .leq v9 (I 40)) fun v10 =>
 Br v10 (
 thn (padd 3 (pt p2 0 0)) fun v11 =>
 thn (ld1 h0 v11) fun v12 =>
 thn (lenS v12) fun v13 =>
 thn (biI .leq v13 (I 40)) fun v14 =>
 Br v14 (
 thn (padd 2 (pt p2 0 0)) fun v15 =>
 thn (ld1 h0 v15) fun v16 =>
 thn (lenS v16) fun v17 =>
 thn (biI .leq v17 (I 20)) fun v18 =>
 Br v18 (
 thn (padd 4 (pt p2 0 0)) fun v19 =>
 thn (ld1 h0 v19) fun v20 =>
 thn (lenS v20) fun v21 =>
 thn (biI .leq v21 (I 40)) fun v22 =>
 Q v22 h0) (
 Q (.bool false) h0)) (
 Q (.bool false) h0)) (
 Q (.bool false) h0)) (
 Q (.bool false) h0)
) : A4_0 Q t0 h := by intro e he; cases he; exact bF L4 (by kernel_rfl) H
theorem c4 {h : AH} {Q : Value → AH → Prop} {a0 : Value} (H : A4_0 Q a0 h) : Cl Pr K 4 [a0] h Q :=
  ok_enter (by kernel_rfl) (by kernel_rfl) (Eq.mp (by kernel_rfl) (H (fun i => ([a0] : List Value).getD i undef) rfl))

/-! ### 6 donjon/safe.Check: params 2, captured 0, results [cell 4 : 40, tmp 5] -/
noncomputable def L6 : List (Option Nat × List Nat) := [(some 0, [0, 1, 19]), (some 4, [2, 3, 4, 5, 19]), (some 6, [7, 19])]
noncomputable def A6_0 (ds : List Nat) (Q : Value → AH → Prop) (t0 t1 t19 : Value) (h : AH) : Prop := Pt Pr K 6 none (retV Pr 6 Q) 22 [0, 1, 19] [.code (cc 6 2), .code (cc 6 3)] ds [t0, t1, t19] h
noncomputable def A6_1 (ds : List Nat) (Q : Value → AH → Prop) (t2 t3 t4 t5 t19 : Value) (h : AH) : Prop := Pt Pr K 6 none (retV Pr 6 Q) 22 [2, 3, 4, 5, 19] [.code (cc 6 26), .code (cc 6 27), .inScope (cc 6 6)] ds [t2, t3, t4, t5, t19] h
noncomputable def A6_2 (l : Nat) (Q : Value → AH → Prop) (t7 t19 : Value) (h : AH) : Prop := Pt Pr K 6 (some l) (roundOut l Q) 22 [7, 19] [.code (cc 6 884), .beginRound, .code (cc 6 885)] [] [t7, t19] h
theorem b6_0 {h : AH} {Q : Value → AH → Prop} {ds : List Nat} {t0 t1 t19 : Value} (H :
 thn (blkOf 45 t0) fun b1 =>
 alc h b1 fun p2 h0 =>
 thn (blkOf 28 t1) fun b4 =>
 alc h0 b4 fun p5 h3 =>
 alc h3 (.cells [(I 0), (I 0)] 40 (0, 0) true) fun p7 h6 =>
 thn (ldN h6 7 (pt p2 0 0)) fun v8 =>
 thn (ldN h6 5 (pt p5 0 0)) fun v9 =>
 Cl Pr K 8 [v8, v9] h6 fun v10 h10 => -- donjon/safe.may
 thn (biI .neq v10 (I 0)) fun v11 =>
 Br v11 (
 thn (fillL [(I 0), (I 0)] []) fun c12 =>
 thn (stV h10 2 (pt p7 0 0) (.agg ⟨c12⟩)) fun h13 =>
 thn (closeMarks ds h13) fun h14 =>
 thn (ldN h14 2 (pt p7 0 0)) fun v15 =>
 Q (.tuple ⟨[v15, v10]⟩) h14) (
 A6_1 ds Q (pt p2 0 0) (pt p5 0 0) (pt p7 0 0) (I 0) t19 h10)
) : A6_0 ds Q t0 t1 t19 h := by intro e he; cases he; exact bD L6 (by kernel_rfl) H
theorem b6_1 {h : AH} {Q : Value → AH → Prop} {ds : List Nat} {t2 t3 t4 t5 t19 : Value} (H :
 alc h (.cells [(I 0), (I 0)] 40 (0, 0) true) fun p1 h0 =>
 thn (ldN h0 7 t2) fun v2 =>
 thn (ldN h0 5 t3) fun v3 =>
 Cl Pr K 9 [v2, v3] h0 fun v4 h4 => -- donjon/safe.wrongs
 alc h4 (.marks true) fun d6 h5 =>
 ∀ e12 : Nat → Value, List.map e12 [7, 19] = [(pt p1 0 0), t19] →
 alc h5 (lp Pr 6 (dcd 442) 22 e12 d6 .ready none) fun l7 h8 =>
 OkR Pr K v4 l7 h8 fun v9 h10 =>
 thn (endV h10 l7) fun r11 => (fun x14 h15 =>
 EndX x14 (
 thn (ldN h15 2 (pt p1 0 0)) fun v16 =>
 thn (stV h15 2 t4 v16) fun h17 =>
 thn (closeMarks (d6 :: ds) h17) fun h18 =>
 thn (ldN h18 2 t4) fun v19 =>
 Q (.tuple ⟨[v19, (I 0)]⟩) h18) (
 thn (closeMarks (d6 :: ds) h15) fun h16 =>
 thn (ldN h16 2 t4) fun v17 =>
 Q (.tuple ⟨[v17, t5]⟩) h16) [(0, thn (ldN h15 2 (pt p1 0 0)) fun v16 =>
 thn (stV h15 2 t4 v16) fun h17 =>
 thn (closeMarks (d6 :: ds) h17) fun h18 =>
 thn (ldN h18 2 t4) fun v19 =>
 Q (.tuple ⟨[v19, (I 0)]⟩) h18)]) r11.1 r11.2
) : A6_1 ds Q t2 t3 t4 t5 t19 h := by intro e he; cases he; exact bD L6 (by kernel_rfl) H
theorem b6_2 {h : AH} {Q : Value → AH → Prop} {l : Nat} {t7 t19 : Value} (H :
 alc h (.cells [(I 0), (I 0)] 40 (0, 0) true) fun p1 h0 =>
 thn (stV h0 2 (pt p1 0 0) t19) fun h2 =>
 thn (beginV h2 l) fun h3 =>
 thn (ldN h3 2 (pt p1 0 0)) fun v4 =>
 thn (stV h3 2 t7 v4) fun h5 =>
 thn (setLoop h5 l .done (some (some (.exit 0)))) fun h6 =>
 Q (.bool false) h6
) : A6_2 l Q t7 t19 h := by intro e he; cases he; exact bR L6 (by kernel_rfl) H
theorem c6 {h : AH} {Q : Value → AH → Prop} {a0 a1 : Value} (H : A6_0 [] Q a0 a1 undef h) : Cl Pr K 6 [a0, a1] h Q :=
  ok_enter (by kernel_rfl) (by kernel_rfl) (Eq.mp (by kernel_rfl) (H (fun i => ([a0, a1] : List Value).getD i undef) rfl))
theorem r6_0 {h : AH} {Q : Value → AH → Prop} {l d : Nat} {e : Nat → Value} {st : LoopState} {pd : Option Code} {t7 t19 : Value} {a0 : Value} (hg : h.get l = some (lp Pr 6 (dcd 442) 22 e d st pd)) (he : List.map e [7, 19] = [t7, t19]) (H : A6_2 l Q t7 a0 h) : OkF Pr K (.func (.yield l) #[] #[]) [a0] h Q := by
  cases he; refine okF_round ?_; exact enter_lp (lv := [7, 19]) (vs := [e 7, a0]) hg (by kernel_rfl) (by kernel_rfl) (Eq.mp (by kernel_rfl) H)

/-! ### 7 donjon/donjonlaw17.small: params 0, captured 0, results [cell 0 : 45] -/
noncomputable def L7 : List (Option Nat × List Nat) := [(some 0, [])]
noncomputable def A7_0 (Q : Value → AH → Prop) (h : AH) : Prop := Pt Pr K 7 none (retV Pr 7 Q) 2 [] [.code (cc 7 2), .code (cc 7 3)] [] [] h
theorem b7_0 {h : AH} {Q : Value → AH → Prop} (H :
 alc h (.cells [(I 0), (I 0), (I 0), (I 0), (I 0), (I 0), (I 0)] 45 (0, 0) true) fun p1 h0 =>
 thn (fillL [(I 0), (I 0), (I 0), (I 0), (I 0), (I 0), (I 0)] [(0, 1, (I 3)), (1, 1, (I 2)), (2, 1, (I 1)), (3, 1, (I 1)), (4, 1, (I 1)), (5, 1, (I 1)), (6, 1, (I 1))]) fun c2 =>
 thn (stV h0 7 (pt p1 0 0) (.agg ⟨c2⟩)) fun h3 =>
 thn (ldN h3 7 (pt p1 0 0)) fun v4 =>
 Q v4 h3
) : A7_0 Q  h := by intro e _; exact bF L7 (by kernel_rfl) H
theorem c7 {h : AH} {Q : Value → AH → Prop} (H : A7_0 Q  h) : Cl Pr K 7 [] h Q :=
  ok_enter (by kernel_rfl) (by kernel_rfl) (Eq.mp (by kernel_rfl) (H (fun i => ([] : List Value).getD i undef) rfl))

/-! ### 8 donjon/safe.may: params 2, captured 0, results [tmp 4] -/
noncomputable def L8 : List (Option Nat × List Nat) := [(some 0, [0, 1]), (some 4, [2, 3]), (some 7, [2, 3, 6]), (some 8, [2, 3, 6, 34, 35, 36]), (some 9, [2, 3, 6, 34, 35, 36]), (some 13, [2, 3, 6]), (some 12, [2, 3, 6, 34, 35, 36]), (some 14, [2, 3, 6, 55, 56, 57]), (some 15, [2, 3, 6, 55, 56, 57]), (some 19, [2, 3, 6]), (some 18, [2, 3, 6, 55, 56, 57]), (some 20, [2, 6, 77, 78, 79]), (some 21, [2, 6, 77, 78, 79]), (some 24, [2, 6, 77, 78, 79])]
noncomputable def A8_0 (Q : Value → AH → Prop) (t0 t1 : Value) (h : AH) : Prop := Pt Pr K 8 none (retV Pr 8 Q) 97 [0, 1] [.code (cc 8 2), .code (cc 8 3)] [] [t0, t1] h
noncomputable def A8_1 (Q : Value → AH → Prop) (t2 t3 : Value) (h : AH) : Prop := Pt Pr K 8 none (retV Pr 8 Q) 97 [2, 3] [.code (cc 8 14), .code (cc 8 15)] [] [t2, t3] h
noncomputable def A8_2 (Q : Value → AH → Prop) (t2 t3 t6 : Value) (h : AH) : Prop := Pt Pr K 8 none (retV Pr 8 Q) 97 [2, 3, 6] [.code (cc 8 124), .code (cc 8 125), .code (cc 8 63)] [] [t2, t3, t6] h
noncomputable def A8_3 (Q : Value → AH → Prop) (t2 t3 t6 t34 t35 t36 : Value) (h : AH) : Prop := Pt Pr K 8 none (retV Pr 8 Q) 97 [2, 3, 6, 34, 35, 36] [.code (cc 8 1000), .code (cc 8 1001), .inLoop (cc 8 500), .inBlock 0, .code (cc 8 63)] [] [t2, t3, t6, t34, t35, t36] h
noncomputable def A8_4 (Q : Value → AH → Prop) (t2 t3 t6 t34 t35 t36 : Value) (h : AH) : Prop := Pt Pr K 8 none (retV Pr 8 Q) 97 [2, 3, 6, 34, 35, 36] [.code (cc 8 16024), .code (cc 8 16025), .inBlock 1, .code (cc 8 4007), .inLoop (cc 8 500), .inBlock 0, .code (cc 8 63)] [] [t2, t3, t6, t34, t35, t36] h
noncomputable def A8_5 (Q : Value → AH → Prop) (t2 t3 t6 : Value) (h : AH) : Prop := Pt Pr K 8 none (retV Pr 8 Q) 97 [2, 3, 6] [.code (cc 8 252), .code (cc 8 253), .code (cc 8 127)] [] [t2, t3, t6] h
noncomputable def A8_6 (Q : Value → AH → Prop) (t2 t3 t6 t34 t35 t36 : Value) (h : AH) : Prop := Pt Pr K 8 none (retV Pr 8 Q) 97 [2, 3, 6, 34, 35, 36] [.code (cc 8 4007), .inLoop (cc 8 500), .inBlock 0, .code (cc 8 63)] [] [t2, t3, t6, t34, t35, t36] h
noncomputable def A8_7 (Q : Value → AH → Prop) (t2 t3 t6 t55 t56 t57 : Value) (h : AH) : Prop := Pt Pr K 8 none (retV Pr 8 Q) 97 [2, 3, 6, 55, 56, 57] [.code (cc 8 2024), .code (cc 8 2025), .inLoop (cc 8 1012), .inBlock 2, .code (cc 8 127)] [] [t2, t3, t6, t55, t56, t57] h
noncomputable def A8_8 (Q : Value → AH → Prop) (t2 t3 t6 t55 t56 t57 : Value) (h : AH) : Prop := Pt Pr K 8 none (retV Pr 8 Q) 97 [2, 3, 6, 55, 56, 57] [.code (cc 8 32408), .code (cc 8 32409), .inBlock 3, .code (cc 8 8103), .inLoop (cc 8 1012), .inBlock 2, .code (cc 8 127)] [] [t2, t3, t6, t55, t56, t57] h
noncomputable def A8_9 (Q : Value → AH → Prop) (t2 t3 t6 : Value) (h : AH) : Prop := Pt Pr K 8 none (retV Pr 8 Q) 97 [2, 3, 6] [.code (cc 8 508), .code (cc 8 509), .code (cc 8 255)] [] [t2, t3, t6] h
noncomputable def A8_10 (Q : Value → AH → Prop) (t2 t3 t6 t55 t56 t57 : Value) (h : AH) : Prop := Pt Pr K 8 none (retV Pr 8 Q) 97 [2, 3, 6, 55, 56, 57] [.code (cc 8 8103), .inLoop (cc 8 1012), .inBlock 2, .code (cc 8 127)] [] [t2, t3, t6, t55, t56, t57] h
noncomputable def A8_11 (Q : Value → AH → Prop) (t2 t6 t77 t78 t79 : Value) (h : AH) : Prop := Pt Pr K 8 none (retV Pr 8 Q) 97 [2, 6, 77, 78, 79] [.code (cc 8 4072), .code (cc 8 4073), .inLoop (cc 8 2036), .inBlock 4, .code (cc 8 255)] [] [t2, t6, t77, t78, t79] h
noncomputable def A8_12 (Q : Value → AH → Prop) (t2 t6 t77 t78 t79 : Value) (h : AH) : Prop := Pt Pr K 8 none (retV Pr 8 Q) 97 [2, 6, 77, 78, 79] [.code (cc 8 65176), .code (cc 8 65177), .inBlock 5, .code (cc 8 16295), .inLoop (cc 8 2036), .inBlock 4, .code (cc 8 255)] [] [t2, t6, t77, t78, t79] h
noncomputable def A8_13 (Q : Value → AH → Prop) (t2 t6 t77 t78 t79 : Value) (h : AH) : Prop := Pt Pr K 8 none (retV Pr 8 Q) 97 [2, 6, 77, 78, 79] [.code (cc 8 16295), .inLoop (cc 8 2036), .inBlock 4, .code (cc 8 255)] [] [t2, t6, t77, t78, t79] h
theorem b8_0 {h : AH} {Q : Value → AH → Prop} {t0 t1 : Value} (H :
 thn (blkOf 45 t0) fun b1 =>
 alc h b1 fun p2 h0 =>
 thn (blkOf 28 t1) fun b4 =>
 alc h0 b4 fun p5 h3 =>
 thn (ldN h3 7 (pt p2 0 0)) fun v6 =>
 Cl Pr K 10 [v6] h3 fun v7 h7 => -- donjon/place.Check
 thn (biI .neq v7 (I 0)) fun v8 =>
 Br v8 (
 Q v7 h7) (
 A8_1 Q (pt p2 0 0) (pt p5 0 0) h7)
) : A8_0 Q t0 t1 h := by intro e he; cases he; exact bF L8 (by kernel_rfl) H
theorem b8_1 {h : AH} {Q : Value → AH → Prop} {t2 t3 : Value} (H :
 thn (ldN h 7 t2) fun v0 =>
 Cl Pr K 11 [v0] h fun v1 h1 => -- donjon/place.Lines
 thn (padd 2 t3) fun v2 =>
 thn (ld1 h1 v2) fun v3 =>
 thn (lenS v3) fun v4 =>
 thn (padd 1 t2) fun v5 =>
 thn (ld1 h1 v5) fun v6 =>
 thn (biI .neq v4 v6) fun v7 =>
 Br v7 (
 Q (I 1) h1) (
 thn (padd 4 t3) fun v8 =>
 thn (ld1 h1 v8) fun v9 =>
 thn (lenS v9) fun v10 =>
 thn (biI .neq v10 v1) fun v11 =>
 Br v11 (
 Q (I 1) h1) (
 A8_2 Q t2 t3 v1 h1))
) : A8_1 Q t2 t3 h := by intro e he; cases he; exact bF L8 (by kernel_rfl) H
theorem b8_2 {h : AH} {Q : Value → AH → Prop} {t2 t3 t6 : Value} (H :
 thn (padd 0 t3) fun v0 =>
 thn (ld1 h v0) fun v1 =>
 thn (lenS v1) fun v2 =>
 A8_3 Q t2 t3 t6 v1 v2 (I 0) h
) : A8_2 Q t2 t3 t6 h := by intro e he; cases he; exact bF L8 (by kernel_rfl) H
theorem b8_3 {h : AH} {Q : Value → AH → Prop} {t2 t3 t6 t34 t35 t36 : Value} (H :
 thn (biI .lss t36 t35) fun v0 =>
 Br v0 (
 A8_4 Q t2 t3 t6 t34 t35 t36 h) (
 A8_5 Q t2 t3 t6 h)
) : A8_3 Q t2 t3 t6 t34 t35 t36 h := by intro e he; cases he; exact bF L8 (by kernel_rfl) H
theorem b8_4 {h : AH} {Q : Value → AH → Prop} {t2 t3 t6 t34 t35 t36 : Value} (H :
 thn (idxS 6 t34 t36) fun v0 =>
 thn (ldN h 6 v0) fun v1 =>
 alc h (.cells [(I 0), (I 0), (I 0), (I 0), (I 0), (I 0)] 34 (0, 0) true) fun p3 h2 =>
 thn (stV h2 6 (pt p3 0 0) v1) fun h4 =>
 thn (padd 0 (pt p3 0 0)) fun v5 =>
 thn (ld1 h4 v5) fun v6 =>
 thn (padd 0 t2) fun v7 =>
 thn (ld1 h4 v7) fun v8 =>
 Cl Pr K 12 [v6, v8] h4 fun v9 h9 => -- donjon/safe.below
 thn (unV .not v9) fun v10 =>
 Br v10 (
 Q (I 1) h9) (
 thn (padd 1 (pt p3 0 0)) fun v11 =>
 thn (ld1 h9 v11) fun v12 =>
 Cl Pr K 12 [v12, t6] h9 fun v13 h13 => -- donjon/safe.below
 thn (unV .not v13) fun v14 =>
 Br v14 (
 Q (I 1) h13) (
 A8_6 Q t2 t3 t6 t34 t35 t36 h13))
) : A8_4 Q t2 t3 t6 t34 t35 t36 h := by intro e he; cases he; exact bF L8 (by kernel_rfl) H
theorem b8_5 {h : AH} {Q : Value → AH → Prop} {t2 t3 t6 : Value} (H :
 thn (padd 1 t3) fun v0 =>
 thn (ld1 h v0) fun v1 =>
 thn (lenS v1) fun v2 =>
 A8_7 Q t2 t3 t6 v1 v2 (I 0) h
) : A8_5 Q t2 t3 t6 h := by intro e he; cases he; exact bF L8 (by kernel_rfl) H
theorem b8_6 {h : AH} {Q : Value → AH → Prop} {t2 t3 t6 t34 t35 t36 : Value} (H :
 thn (biI .add t36 (I 1)) fun v0 =>
 A8_3 Q t2 t3 t6 t34 t35 v0 h
) : A8_6 Q t2 t3 t6 t34 t35 t36 h := by intro e he; cases he; exact bF L8 (by kernel_rfl) H
theorem b8_7 {h : AH} {Q : Value → AH → Prop} {t2 t3 t6 t55 t56 t57 : Value} (H :
 thn (biI .lss t57 t56) fun v0 =>
 Br v0 (
 A8_8 Q t2 t3 t6 t55 t56 t57 h) (
 A8_9 Q t2 t3 t6 h)
) : A8_7 Q t2 t3 t6 t55 t56 t57 h := by intro e he; cases he; exact bF L8 (by kernel_rfl) H
theorem b8_8 {h : AH} {Q : Value → AH → Prop} {t2 t3 t6 t55 t56 t57 : Value} (H :
 thn (idxS 3 t55 t57) fun v0 =>
 thn (ldN h 3 v0) fun v1 =>
 alc h (.cells [(I 0), (I 0), (I 0)] 36 (0, 0) true) fun p3 h2 =>
 thn (stV h2 3 (pt p3 0 0) v1) fun h4 =>
 thn (padd 0 (pt p3 0 0)) fun v5 =>
 thn (ld1 h4 v5) fun v6 =>
 thn (padd 0 t2) fun v7 =>
 thn (ld1 h4 v7) fun v8 =>
 Cl Pr K 12 [v6, v8] h4 fun v9 h9 => -- donjon/safe.below
 thn (unV .not v9) fun v10 =>
 Br v10 (
 Q (I 1) h9) (
 thn (padd 1 (pt p3 0 0)) fun v11 =>
 thn (ld1 h9 v11) fun v12 =>
 thn (padd 1 t2) fun v13 =>
 thn (ld1 h9 v13) fun v14 =>
 Cl Pr K 12 [v12, v14] h9 fun v15 h15 => -- donjon/safe.below
 thn (unV .not v15) fun v16 =>
 Br v16 (
 Q (I 1) h15) (
 A8_10 Q t2 t3 t6 t55 t56 t57 h15))
) : A8_8 Q t2 t3 t6 t55 t56 t57 h := by intro e he; cases he; exact bF L8 (by kernel_rfl) H
theorem b8_9 {h : AH} {Q : Value → AH → Prop} {t2 t3 t6 : Value} (H :
 thn (padd 3 t3) fun v0 =>
 thn (ld1 h v0) fun v1 =>
 thn (lenS v1) fun v2 =>
 A8_11 Q t2 t6 v1 v2 (I 0) h
) : A8_9 Q t2 t3 t6 h := by intro e he; cases he; exact bF L8 (by kernel_rfl) H
theorem b8_10 {h : AH} {Q : Value → AH → Prop} {t2 t3 t6 t55 t56 t57 : Value} (H :
 thn (biI .add t57 (I 1)) fun v0 =>
 A8_7 Q t2 t3 t6 t55 t56 v0 h
) : A8_10 Q t2 t3 t6 t55 t56 t57 h := by intro e he; cases he; exact bF L8 (by kernel_rfl) H
theorem b8_11 {h : AH} {Q : Value → AH → Prop} {t2 t6 t77 t78 t79 : Value} (H :
 thn (biI .lss t79 t78) fun v0 =>
 Br v0 (
 A8_12 Q t2 t6 t77 t78 t79 h) (
 Q (I 0) h)
) : A8_11 Q t2 t6 t77 t78 t79 h := by intro e he; cases he; exact bF L8 (by kernel_rfl) H
theorem b8_12 {h : AH} {Q : Value → AH → Prop} {t2 t6 t77 t78 t79 : Value} (H :
 thn (idxS 9 t77 t79) fun v0 =>
 thn (ldN h 9 v0) fun v1 =>
 alc h (.cells [(I 0), (I 0), (I 0), (I 0), (I 0), (I 0), (I 0), (.bool false), (I 0)] 38 (0, 0) true) fun p3 h2 =>
 thn (stV h2 9 (pt p3 0 0) v1) fun h4 =>
 thn (padd 1 (pt p3 0 0)) fun v5 =>
 thn (ld1 h4 v5) fun v6 =>
 thn (padd 0 t2) fun v7 =>
 thn (ld1 h4 v7) fun v8 =>
 Cl Pr K 12 [v6, v8] h4 fun v9 h9 => -- donjon/safe.below
 thn (unV .not v9) fun v10 =>
 Br v10 (
 Q (I 1) h9) (
 thn (padd 2 (pt p3 0 0)) fun v11 =>
 thn (ld1 h9 v11) fun v12 =>
 Cl Pr K 12 [v12, t6] h9 fun v13 h13 => -- donjon/safe.below
 thn (unV .not v13) fun v14 =>
 Br v14 (
 Q (I 1) h13) (
 A8_13 Q t2 t6 t77 t78 t79 h13))
) : A8_12 Q t2 t6 t77 t78 t79 h := by intro e he; cases he; exact bF L8 (by kernel_rfl) H
theorem b8_13 {h : AH} {Q : Value → AH → Prop} {t2 t6 t77 t78 t79 : Value} (H :
 thn (biI .add t79 (I 1)) fun v0 =>
 A8_11 Q t2 t6 t77 t78 v0 h
) : A8_13 Q t2 t6 t77 t78 t79 h := by intro e he; cases he; exact bF L8 (by kernel_rfl) H
theorem c8 {h : AH} {Q : Value → AH → Prop} {a0 a1 : Value} (H : A8_0 Q a0 a1 h) : Cl Pr K 8 [a0, a1] h Q :=
  ok_enter (by kernel_rfl) (by kernel_rfl) (Eq.mp (by kernel_rfl) (H (fun i => ([a0, a1] : List Value).getD i undef) rfl))

/-! ### 9 donjon/safe.wrongs: params 2, captured 0, results [tmp 4] -/
noncomputable def L9 : List (Option Nat × List Nat) := [(some 0, [0, 1])]
noncomputable def A9_0 (Q : Value → AH → Prop) (t0 t1 : Value) (h : AH) : Prop := Pt Pr K 9 none (retV Pr 9 Q) 6 [0, 1] [.code (cc 9 2), .code (cc 9 3)] [] [t0, t1] h
theorem b9_0 {h : AH} {Q : Value → AH → Prop} {t0 t1 : Value} (H :
 thn (blkOf 45 t0) fun b1 =>
 alc h b1 fun p2 h0 =>
 thn (blkOf 28 t1) fun b4 =>
 alc h0 b4 fun p5 h3 =>
 Q (.func (.func 13) #[] #[(pt p2 0 0), (pt p5 0 0)]) h3
) : A9_0 Q t0 t1 h := by intro e he; cases he; exact bF L9 (by kernel_rfl) H
theorem c9 {h : AH} {Q : Value → AH → Prop} {a0 a1 : Value} (H : A9_0 Q a0 a1 h) : Cl Pr K 9 [a0, a1] h Q :=
  ok_enter (by kernel_rfl) (by kernel_rfl) (Eq.mp (by kernel_rfl) (H (fun i => ([a0, a1] : List Value).getD i undef) rfl))

/-! ### 10 donjon/place.Check: params 1, captured 0, results [tmp 2] -/
noncomputable def L10 : List (Option Nat × List Nat) := [(some 0, [0]), (some 4, [3, 4, 22, 23]), (some 5, [3, 4, 22, 23]), (some 7, []), (some 8, [3, 4, 22, 23])]
noncomputable def A10_0 (Q : Value → AH → Prop) (t0 : Value) (h : AH) : Prop := Pt Pr K 10 none (retV Pr 10 Q) 40 [0] [.code (cc 10 2), .code (cc 10 3)] [] [t0] h
noncomputable def A10_1 (Q : Value → AH → Prop) (t3 t4 t22 t23 : Value) (h : AH) : Prop := Pt Pr K 10 none (retV Pr 10 Q) 40 [3, 4, 22, 23] [.code (cc 10 1768), .code (cc 10 1769), .inLoop (cc 10 884), .inBlock 0, .code (cc 10 111), .inScope (cc 10 6)] [] [t3, t4, t22, t23] h
noncomputable def A10_2 (Q : Value → AH → Prop) (t3 t4 t22 t23 : Value) (h : AH) : Prop := Pt Pr K 10 none (retV Pr 10 Q) 40 [3, 4, 22, 23] [.code (cc 10 28312), .code (cc 10 28313), .inBlock 1, .code (cc 10 7079), .inLoop (cc 10 884), .inBlock 0, .code (cc 10 111), .inScope (cc 10 6)] [] [t3, t4, t22, t23] h
noncomputable def A10_3 (Q : Value → AH → Prop) (h : AH) : Prop := Pt Pr K 10 none (retV Pr 10 Q) 40 [] [.code (cc 10 226508), .code (cc 10 226509), .inBlock 1, .code (cc 10 7079), .inLoop (cc 10 884), .inBlock 0, .code (cc 10 111), .inScope (cc 10 6)] [] [] h
noncomputable def A10_4 (Q : Value → AH → Prop) (t3 t4 t22 t23 : Value) (h : AH) : Prop := Pt Pr K 10 none (retV Pr 10 Q) 40 [3, 4, 22, 23] [.code (cc 10 7079), .inLoop (cc 10 884), .inBlock 0, .code (cc 10 111), .inScope (cc 10 6)] [] [t3, t4, t22, t23] h
theorem b10_0 {h : AH} {Q : Value → AH → Prop} {t0 : Value} (H :
 thn (blkOf 45 t0) fun b1 =>
 alc h b1 fun p2 h0 =>
 thn (padd 0 (pt p2 0 0)) fun v3 =>
 thn (ld1 h0 v3) fun v4 =>
 thn (padd 1 (pt p2 0 0)) fun v5 =>
 thn (ld1 h0 v5) fun v6 =>
 thn (padd 2 (pt p2 0 0)) fun v7 =>
 thn (ld1 h0 v7) fun v8 =>
 thn (padd 3 (pt p2 0 0)) fun v9 =>
 thn (ld1 h0 v9) fun v10 =>
 thn (padd 4 (pt p2 0 0)) fun v11 =>
 thn (ld1 h0 v11) fun v12 =>
 thn (padd 5 (pt p2 0 0)) fun v13 =>
 thn (ld1 h0 v13) fun v14 =>
 thn (padd 6 (pt p2 0 0)) fun v15 =>
 thn (ld1 h0 v15) fun v16 =>
 thn (fillL [(I 0), (I 0), (I 0), (I 0), (I 0), (I 0), (I 0)] [(0, 1, v4), (1, 1, v6), (2, 1, v8), (3, 1, v10), (4, 1, v12), (5, 1, v14), (6, 1, v16)]) fun c17 =>
 alc h0 (.cells [(I 0), (I 0), (I 0), (I 0), (I 0), (I 0), (I 0)] 56 (0, 0) true) fun p19 h18 =>
 thn (stV h18 7 (pt p19 0 0) (.agg ⟨c17⟩)) fun h20 =>
 thn (ldN h20 7 (.pointer (some ⟨0, 0, none⟩))) fun v21 =>
 A10_1 Q (pt p19 0 0) (I 0) v21 (I 0) h20
) : A10_0 Q t0 h := by intro e he; cases he; exact bF L10 (by kernel_rfl) H
theorem b10_1 {h : AH} {Q : Value → AH → Prop} {t3 t4 t22 t23 : Value} (H :
 thn (biI .lss t23 (I 7)) fun v0 =>
 Br v0 (
 A10_2 Q t3 t4 t22 t23 h) (
 Q t4 h)
) : A10_1 Q t3 t4 t22 t23 h := by intro e he; cases he; exact bF L10 (by kernel_rfl) H
theorem b10_2 {h : AH} {Q : Value → AH → Prop} {t3 t4 t22 t23 : Value} (H :
 thn (at1 7 1 t22 t23) fun v0 =>
 thn (idxA 7 1 t3 t23) fun v1 =>
 thn (ld1 h v1) fun v2 =>
 thn (biI .lss v2 (I 1)) fun v3 =>
 Br v3 (
 Q (I 10) h) (
 thn (idxA 7 1 t3 t23) fun v4 =>
 thn (ld1 h v4) fun v5 =>
 thn (biI .gtr v5 v0) fun v6 =>
 Br v6 (
 A10_3 Q  h) (
 A10_4 Q t3 t4 t22 t23 h))
) : A10_2 Q t3 t4 t22 t23 h := by intro e he; cases he; exact bF L10 (by kernel_rfl) H
theorem b10_3 {h : AH} {Q : Value → AH → Prop} (H :
 Q (I 10) h
) : A10_3 Q  h := by intro e _; exact bF L10 (by kernel_rfl) H
theorem b10_4 {h : AH} {Q : Value → AH → Prop} {t3 t4 t22 t23 : Value} (H :
 thn (biI .add t23 (I 1)) fun v0 =>
 A10_1 Q t3 t4 t22 v0 h
) : A10_4 Q t3 t4 t22 t23 h := by intro e he; cases he; exact bF L10 (by kernel_rfl) H
theorem c10 {h : AH} {Q : Value → AH → Prop} {a0 : Value} (H : A10_0 Q a0 h) : Cl Pr K 10 [a0] h Q :=
  ok_enter (by kernel_rfl) (by kernel_rfl) (Eq.mp (by kernel_rfl) (H (fun i => ([a0] : List Value).getD i undef) rfl))

/-! ### 11 donjon/place.Lines: params 1, captured 0, results [tmp 2] -/
noncomputable def L11 : List (Option Nat × List Nat) := [(some 0, [0])]
noncomputable def A11_0 (Q : Value → AH → Prop) (t0 : Value) (h : AH) : Prop := Pt Pr K 11 none (retV Pr 11 Q) 9 [0] [.code (cc 11 2), .code (cc 11 3)] [] [t0] h
theorem b11_0 {h : AH} {Q : Value → AH → Prop} {t0 : Value} (H :
 thn (blkOf 45 t0) fun b1 =>
 alc h b1 fun p2 h0 =>
 thn (ldN h0 7 (pt p2 0 0)) fun v3 =>
 Cl Pr K 10 [v3] h0 fun v4 h4 => -- donjon/place.Check
 thn (biI .neq v4 (I 0)) fun v5 =>
 Br v5 (
 Q (I 0) h4) (
 thn (padd 1 (pt p2 0 0)) fun v6 =>
 thn (ld1 h4 v6) fun v7 =>
 thn (biI .mul v7 (I 2)) fun v8 =>
 Q v8 h4)
) : A11_0 Q t0 h := by intro e he; cases he; exact bF L11 (by kernel_rfl) H
theorem c11 {h : AH} {Q : Value → AH → Prop} {a0 : Value} (H : A11_0 Q a0 h) : Cl Pr K 11 [a0] h Q :=
  ok_enter (by kernel_rfl) (by kernel_rfl) (Eq.mp (by kernel_rfl) (H (fun i => ([a0] : List Value).getD i undef) rfl))

/-! ### 12 donjon/safe.below: params 2, captured 0, results [tmp 4] -/
noncomputable def L12 : List (Option Nat × List Nat) := [(some 0, [0, 1])]
noncomputable def A12_0 (Q : Value → AH → Prop) (t0 t1 : Value) (h : AH) : Prop := Pt Pr K 12 none (retV Pr 12 Q) 12 [0, 1] [.code (cc 12 2), .code (cc 12 3)] [] [t0, t1] h
theorem b12_0 {h : AH} {Q : Value → AH → Prop} {t0 t1 : Value} (H :
 thn (biI .geq t0 (I 0)) fun v0 =>
 Br v0 (
 thn (biI .lss t0 t1) fun v1 =>
 Q v1 h) (
 Q (.bool false) h)
) : A12_0 Q t0 t1 h := by intro e he; cases he; exact bF L12 (by kernel_rfl) H
theorem c12 {h : AH} {Q : Value → AH → Prop} {a0 a1 : Value} (H : A12_0 Q a0 a1 h) : Cl Pr K 12 [a0, a1] h Q :=
  ok_enter (by kernel_rfl) (by kernel_rfl) (Eq.mp (by kernel_rfl) (H (fun i => ([a0, a1] : List Value).getD i undef) rfl))

/-! ### 13 donjon/safe.wrongs$1: params 1, captured 2, results [] -/
noncomputable def L13 : List (Option Nat × List Nat) := [(some 0, [0, 1, 2]), (some 1, [0, 1, 2, 4]), (some 3, [0, 1, 2, 4]), (some 5, [0, 1, 2, 4]), (some 6, [0, 1, 2, 4, 5]), (some 7, [0, 1, 2, 4, 18, 19]), (some 8, [0, 1, 2, 4, 18, 19]), (some 2, [0, 1, 2, 4]), (some 11, [0, 1, 2, 4, 18, 19])]
noncomputable def A13_0 (Q : Value → AH → Prop) (t0 t1 t2 : Value) (h : AH) : Prop := Pt Pr K 13 none (retV Pr 13 Q) 36 [0, 1, 2] [.code (cc 13 2), .code (cc 13 3)] [] [t0, t1, t2] h
noncomputable def A13_1 (Q : Value → AH → Prop) (t0 t1 t2 t4 : Value) (h : AH) : Prop := Pt Pr K 13 none (retV Pr 13 Q) 36 [0, 1, 2, 4] [.code (cc 13 48), .code (cc 13 49), .code (cc 13 25), .inLoop (cc 13 12), .inBlock 0] [] [t0, t1, t2, t4] h
noncomputable def A13_2 (Q : Value → AH → Prop) (t0 t1 t2 t4 : Value) (h : AH) : Prop := Pt Pr K 13 none (retV Pr 13 Q) 36 [0, 1, 2, 4] [.code (cc 13 200), .code (cc 13 201), .inBlock 1, .code (cc 13 51), .inLoop (cc 13 12), .inBlock 0] [] [t0, t1, t2, t4] h
noncomputable def A13_3 (Q : Value → AH → Prop) (t0 t1 t2 t4 : Value) (h : AH) : Prop := Pt Pr K 13 none (retV Pr 13 Q) 36 [0, 1, 2, 4] [.code (cc 13 1610), .code (cc 13 403), .inBlock 1, .code (cc 13 51), .inLoop (cc 13 12), .inBlock 0] [] [t0, t1, t2, t4] h
noncomputable def A13_4 (Q : Value → AH → Prop) (t0 t1 t2 t4 t5 : Value) (h : AH) : Prop := Pt Pr K 13 none (retV Pr 13 Q) 36 [0, 1, 2, 4, 5] [.code (cc 13 806), .code (cc 13 807), .inBlock 1, .code (cc 13 51), .inLoop (cc 13 12), .inBlock 0] [] [t0, t1, t2, t4, t5] h
noncomputable def A13_5 (Q : Value → AH → Prop) (t0 t1 t2 t4 t18 t19 : Value) (h : AH) : Prop := Pt Pr K 13 none (retV Pr 13 Q) 36 [0, 1, 2, 4, 18, 19] [.code (cc 13 6456), .code (cc 13 6457), .inLoop (cc 13 3228), .inBlock 2, .inBlock 1, .code (cc 13 51), .inLoop (cc 13 12), .inBlock 0] [] [t0, t1, t2, t4, t18, t19] h
noncomputable def A13_6 (Q : Value → AH → Prop) (t0 t1 t2 t4 t18 t19 : Value) (h : AH) : Prop := Pt Pr K 13 none (retV Pr 13 Q) 36 [0, 1, 2, 4, 18, 19] [.code (cc 13 103320), .code (cc 13 103321), .inBlock 3, .code (cc 13 25831), .inLoop (cc 13 3228), .inBlock 2, .inBlock 1, .code (cc 13 51), .inLoop (cc 13 12), .inBlock 0] [] [t0, t1, t2, t4, t18, t19] h
noncomputable def A13_7 (Q : Value → AH → Prop) (t0 t1 t2 t4 : Value) (h : AH) : Prop := Pt Pr K 13 none (retV Pr 13 Q) 36 [0, 1, 2, 4] [.code (cc 13 51), .inLoop (cc 13 12), .inBlock 0] [] [t0, t1, t2, t4] h
noncomputable def A13_8 (Q : Value → AH → Prop) (t0 t1 t2 t4 t18 t19 : Value) (h : AH) : Prop := Pt Pr K 13 none (retV Pr 13 Q) 36 [0, 1, 2, 4, 18, 19] [.code (cc 13 25831), .inLoop (cc 13 3228), .inBlock 2, .inBlock 1, .code (cc 13 51), .inLoop (cc 13 12), .inBlock 0] [] [t0, t1, t2, t4, t18, t19] h
theorem b13_0 {h : AH} {Q : Value → AH → Prop} {t0 t1 t2 : Value} (H :
 A13_1 Q t0 t1 t2 (I 1) h
) : A13_0 Q t0 t1 t2 h := by intro e he; cases he; exact bF L13 (by kernel_rfl) H
theorem b13_1 {h : AH} {Q : Value → AH → Prop} {t0 t1 t2 t4 : Value} (H :
 thn (biI .leq t4 (I 5)) fun v0 =>
 Br v0 (
 A13_2 Q t0 t1 t2 t4 h) (
 Q (.tuple ⟨[]⟩) h)
) : A13_1 Q t0 t1 t2 t4 h := by intro e he; cases he; exact bF L13 (by kernel_rfl) H
theorem b13_2 {h : AH} {Q : Value → AH → Prop} {t0 t1 t2 t4 : Value} (H :
 thn (ldN h 7 t1) fun v0 =>
 Cl Pr K 11 [v0] h fun v1 h1 => -- donjon/place.Lines
 thn (biI .eql t4 (I 4)) fun v2 =>
 Br v2 (
 A13_3 Q t0 t1 t2 t4 h1) (
 A13_4 Q t0 t1 t2 t4 v1 h1)
) : A13_2 Q t0 t1 t2 t4 h := by intro e he; cases he; exact bF L13 (by kernel_rfl) H
theorem b13_3 {h : AH} {Q : Value → AH → Prop} {t0 t1 t2 t4 : Value} (H :
 thn (padd 1 t1) fun v0 =>
 thn (ld1 h v0) fun v1 =>
 A13_5 Q t0 t1 t2 t4 v1 (I 0) h
) : A13_3 Q t0 t1 t2 t4 h := by intro e he; cases he; exact bF L13 (by kernel_rfl) H
theorem b13_4 {h : AH} {Q : Value → AH → Prop} {t0 t1 t2 t4 t5 : Value} (H :
 A13_5 Q t0 t1 t2 t4 t5 (I 0) h
) : A13_4 Q t0 t1 t2 t4 t5 h := by intro e he; cases he; exact bF L13 (by kernel_rfl) H
theorem b13_5 {h : AH} {Q : Value → AH → Prop} {t0 t1 t2 t4 t18 t19 : Value} (H :
 thn (biI .lss t19 t18) fun v0 =>
 Br v0 (
 A13_6 Q t0 t1 t2 t4 t18 t19 h) (
 A13_7 Q t0 t1 t2 t4 h)
) : A13_5 Q t0 t1 t2 t4 t18 t19 h := by intro e he; cases he; exact bF L13 (by kernel_rfl) H
theorem b13_6 {h : AH} {Q : Value → AH → Prop} {t0 t1 t2 t4 t18 t19 : Value} (H :
 thn (fillL [(I 0), (I 0)] [(0, 1, t4), (1, 1, t19)]) fun c0 =>
 alc h (.cells [(I 0), (I 0)] 40 (0, 0) true) fun p2 h1 =>
 thn (stV h1 2 (pt p2 0 0) (.agg ⟨c0⟩)) fun h3 =>
 thn (ldN h3 7 t1) fun v4 =>
 thn (ldN h3 5 t2) fun v5 =>
 thn (ldN h3 2 (pt p2 0 0)) fun v6 =>
 Cl Pr K 14 [v4, v5, v6] h3 fun v7 h7 => -- donjon/safe.wrong
 Br v7 (
 thn (ldN h7 2 (pt p2 0 0)) fun v8 =>
 OkF Pr K t0 [v8] h7 fun v9 h9 =>
 thn (unV .not v9) fun v10 =>
 Br v10 (
 Q (.tuple ⟨[]⟩) h9) (
 A13_8 Q t0 t1 t2 t4 t18 t19 h9)) (
 thn (biI .add t19 (I 1)) fun v8 =>
 A13_5 Q t0 t1 t2 t4 t18 v8 h7)
) : A13_6 Q t0 t1 t2 t4 t18 t19 h := by intro e he; cases he; exact bF L13 (by kernel_rfl) H
theorem b13_7 {h : AH} {Q : Value → AH → Prop} {t0 t1 t2 t4 : Value} (H :
 thn (biI .add t4 (I 1)) fun v0 =>
 A13_1 Q t0 t1 t2 v0 h
) : A13_7 Q t0 t1 t2 t4 h := by intro e he; cases he; exact bF L13 (by kernel_rfl) H
theorem b13_8 {h : AH} {Q : Value → AH → Prop} {t0 t1 t2 t4 t18 t19 : Value} (H :
 thn (biI .add t19 (I 1)) fun v0 =>
 A13_5 Q t0 t1 t2 t4 t18 v0 h
) : A13_8 Q t0 t1 t2 t4 t18 t19 h := by intro e he; cases he; exact bF L13 (by kernel_rfl) H
theorem c13 {h : AH} {Q : Value → AH → Prop} {a0 a1 a2 : Value} (H : A13_0 Q a0 a1 a2 h) : Cl Pr K 13 [a0, a1, a2] h Q :=
  ok_enter (by kernel_rfl) (by kernel_rfl) (Eq.mp (by kernel_rfl) (H (fun i => ([a0, a1, a2] : List Value).getD i undef) rfl))

/-! ### 14 donjon/safe.wrong: params 3, captured 0, results [tmp 6] -/
noncomputable def L14 : List (Option Nat × List Nat) := [(some 0, [0, 1, 2]), (some 4, [3, 4, 5, 8]), (some 6, [3, 4, 5, 8]), (some 8, [3, 4, 5, 8]), (some 10, [3, 4, 5, 8])]
noncomputable def A14_0 (Q : Value → AH → Prop) (t0 t1 t2 : Value) (h : AH) : Prop := Pt Pr K 14 none (retV Pr 14 Q) 41 [0, 1, 2] [.code (cc 14 2), .code (cc 14 3)] [] [t0, t1, t2] h
noncomputable def A14_1 (Q : Value → AH → Prop) (t3 t4 t5 t8 : Value) (h : AH) : Prop := Pt Pr K 14 none (retV Pr 14 Q) 41 [3, 4, 5, 8] [.code (cc 14 214), .code (cc 14 215), .inBlock 0, .code (cc 14 7)] [] [t3, t4, t5, t8] h
noncomputable def A14_2 (Q : Value → AH → Prop) (t3 t4 t5 t8 : Value) (h : AH) : Prop := Pt Pr K 14 none (retV Pr 14 Q) 41 [3, 4, 5, 8] [.code (cc 14 862), .code (cc 14 863), .inBlock 0, .code (cc 14 7)] [] [t3, t4, t5, t8] h
noncomputable def A14_3 (Q : Value → AH → Prop) (t3 t4 t5 t8 : Value) (h : AH) : Prop := Pt Pr K 14 none (retV Pr 14 Q) 41 [3, 4, 5, 8] [.code (cc 14 3454), .code (cc 14 3455), .inBlock 0, .code (cc 14 7)] [] [t3, t4, t5, t8] h
noncomputable def A14_4 (Q : Value → AH → Prop) (t3 t4 t5 t8 : Value) (h : AH) : Prop := Pt Pr K 14 none (retV Pr 14 Q) 41 [3, 4, 5, 8] [.code (cc 14 13822), .code (cc 14 13823), .inBlock 0, .code (cc 14 7)] [] [t3, t4, t5, t8] h
theorem b14_0 {h : AH} {Q : Value → AH → Prop} {t0 t1 t2 : Value} (H :
 thn (blkOf 45 t0) fun b1 =>
 alc h b1 fun p2 h0 =>
 thn (blkOf 28 t1) fun b4 =>
 alc h0 b4 fun p5 h3 =>
 thn (blkOf 40 t2) fun b7 =>
 alc h3 b7 fun p8 h6 =>
 thn (padd 0 (pt p8 0 0)) fun v9 =>
 thn (ld1 h6 v9) fun v10 =>
 thn (biI .eql v10 (I 1)) fun v11 =>
 Br v11 (
 thn (ldN h6 5 (pt p5 0 0)) fun v12 =>
 thn (padd 1 (pt p8 0 0)) fun v13 =>
 thn (ld1 h6 v13) fun v14 =>
 Cl Pr K 15 [v12, v14] h6 fun v15 h15 => -- donjon/safe.states
 Q v15 h15) (
 A14_1 Q (pt p2 0 0) (pt p5 0 0) (pt p8 0 0) v10 h6)
) : A14_0 Q t0 t1 t2 h := by intro e he; cases he; exact bF L14 (by kernel_rfl) H
theorem b14_1 {h : AH} {Q : Value → AH → Prop} {t3 t4 t5 t8 : Value} (H :
 thn (biI .eql t8 (I 2)) fun v0 =>
 Br v0 (
 thn (ldN h 5 t4) fun v1 =>
 thn (padd 1 t5) fun v2 =>
 thn (ld1 h v2) fun v3 =>
 Cl Pr K 16 [v1, v3] h fun v4 h4 => -- donjon/safe.datas
 Q v4 h4) (
 A14_2 Q t3 t4 t5 t8 h)
) : A14_1 Q t3 t4 t5 t8 h := by intro e he; cases he; exact bF L14 (by kernel_rfl) H
theorem b14_2 {h : AH} {Q : Value → AH → Prop} {t3 t4 t5 t8 : Value} (H :
 thn (biI .eql t8 (I 3)) fun v0 =>
 Br v0 (
 thn (ldN h 7 t3) fun v1 =>
 thn (ldN h 5 t4) fun v2 =>
 thn (padd 1 t5) fun v3 =>
 thn (ld1 h v3) fun v4 =>
 Cl Pr K 17 [v1, v2, v4] h fun v5 h5 => -- donjon/safe.tags
 Q v5 h5) (
 A14_3 Q t3 t4 t5 t8 h)
) : A14_2 Q t3 t4 t5 t8 h := by intro e he; cases he; exact bF L14 (by kernel_rfl) H
theorem b14_3 {h : AH} {Q : Value → AH → Prop} {t3 t4 t5 t8 : Value} (H :
 thn (biI .eql t8 (I 4)) fun v0 =>
 Br v0 (
 thn (ldN h 5 t4) fun v1 =>
 thn (padd 1 t5) fun v2 =>
 thn (ld1 h v2) fun v3 =>
 Cl Pr K 18 [v1, v3] h fun v4 h4 => -- donjon/safe.knows
 Q v4 h4) (
 A14_4 Q t3 t4 t5 t8 h)
) : A14_3 Q t3 t4 t5 t8 h := by intro e he; cases he; exact bF L14 (by kernel_rfl) H
theorem b14_4 {h : AH} {Q : Value → AH → Prop} {t3 t4 t5 t8 : Value} (H :
 thn (biI .eql t8 (I 5)) fun v0 =>
 Br v0 (
 thn (ldN h 7 t3) fun v1 =>
 thn (ldN h 5 t4) fun v2 =>
 thn (padd 1 t5) fun v3 =>
 thn (ld1 h v3) fun v4 =>
 Cl Pr K 19 [v1, v2, v4] h fun v5 h5 => -- donjon/safe.granted
 Q v5 h5) (
 Q (.bool false) h)
) : A14_4 Q t3 t4 t5 t8 h := by intro e he; cases he; exact bF L14 (by kernel_rfl) H
theorem c14 {h : AH} {Q : Value → AH → Prop} {a0 a1 a2 : Value} (H : A14_0 Q a0 a1 a2 h) : Cl Pr K 14 [a0, a1, a2] h Q :=
  ok_enter (by kernel_rfl) (by kernel_rfl) (Eq.mp (by kernel_rfl) (H (fun i => ([a0, a1, a2] : List Value).getD i undef) rfl))

/-! ### 15 donjon/safe.states: params 2, captured 0, results [tmp 4] -/
noncomputable def L15 : List (Option Nat × List Nat) := [(some 0, [0, 1, 10]), (some 3, [5, 10])]
noncomputable def A15_0 (ds : List Nat) (Q : Value → AH → Prop) (t0 t1 t10 : Value) (h : AH) : Prop := Pt Pr K 15 none (retV Pr 15 Q) 19 [0, 1, 10] [.code (cc 15 2), .code (cc 15 3)] ds [t0, t1, t10] h
noncomputable def A15_1 (l : Nat) (Q : Value → AH → Prop) (t5 t10 : Value) (h : AH) : Prop := Pt Pr K 15 (some l) (roundOut l Q) 19 [5, 10] [.code (cc 15 116), .beginRound, .code (cc 15 117)] [] [t5, t10] h
theorem b15_0 {h : AH} {Q : Value → AH → Prop} {ds : List Nat} {t0 t1 t10 : Value} (H :
 thn (blkOf 28 t0) fun b1 =>
 alc h b1 fun p2 h0 =>
 alc h0 (.cells [(.slice none 0 0)] 59 (0, 0) true) fun p4 h3 =>
 thn (ldN h3 5 (pt p2 0 0)) fun v5 =>
 Cl Pr K 20 [v5, t1] h3 fun v6 h6 => -- donjon/safe.copies
 alc h6 (.marks true) fun d8 h7 =>
 ∀ e14 : Nat → Value, List.map e14 [5, 10] = [(pt p4 0 0), t10] →
 alc h7 (lp Pr 15 (dcd 58) 19 e14 d8 .ready none) fun l9 h10 =>
 OkR Pr K v6 l9 h10 fun v11 h12 =>
 thn (endV h12 l9) fun r13 => (fun x16 h17 =>
 EndX x16 (
 thn (ld1 h17 (pt p4 0 0)) fun v18 =>
 Cl Pr K 21 [v18] h17 fun v19 h19 => -- donjon/moesi.Fit
 thn (unV .not v19) fun v20 =>
 thn (closeMarks (d8 :: ds) h19) fun h21 =>
 Q v20 h21) (
 thn (closeMarks (d8 :: ds) h17) fun h18 =>
 Q (.bool false) h18) []) r13.1 r13.2
) : A15_0 ds Q t0 t1 t10 h := by intro e he; cases he; exact bD L15 (by kernel_rfl) H
theorem b15_1 {h : AH} {Q : Value → AH → Prop} {l : Nat} {t5 t10 : Value} (H :
 alc h (.cells [(I 0), (I 0), (I 0), (I 0), (I 0), (I 0)] 34 (0, 0) true) fun p1 h0 =>
 thn (stV h0 6 (pt p1 0 0) t10) fun h2 =>
 thn (beginV h2 l) fun h3 =>
 thn (ld1 h3 t5) fun v4 =>
 thn (padd 2 (pt p1 0 0)) fun v5 =>
 thn (ld1 h3 v5) fun v6 =>
 thn (fillL [(I 0)] [(0, 1, v6)]) fun l8 =>
 alcS h3 1 3 l8 1 1 fun s9 h7 =>
 thn (appV 1 8 3 h7 v4 s9) fun r10 => (fun v11 h12 =>
 thn (stV h12 1 t5 v11) fun h13 =>
 thn (setLoop h13 l .ready (some none)) fun h14 =>
 Q (.bool true) h14) r10.1 r10.2
) : A15_1 l Q t5 t10 h := by intro e he; cases he; exact bR L15 (by kernel_rfl) H
theorem c15 {h : AH} {Q : Value → AH → Prop} {a0 a1 : Value} (H : A15_0 [] Q a0 a1 undef h) : Cl Pr K 15 [a0, a1] h Q :=
  ok_enter (by kernel_rfl) (by kernel_rfl) (Eq.mp (by kernel_rfl) (H (fun i => ([a0, a1] : List Value).getD i undef) rfl))
theorem r15_0 {h : AH} {Q : Value → AH → Prop} {l d : Nat} {e : Nat → Value} {st : LoopState} {pd : Option Code} {t5 t10 : Value} {a0 : Value} (hg : h.get l = some (lp Pr 15 (dcd 58) 19 e d st pd)) (he : List.map e [5, 10] = [t5, t10]) (H : A15_1 l Q t5 a0 h) : OkF Pr K (.func (.yield l) #[] #[]) [a0] h Q := by
  cases he; refine okF_round ?_; exact enter_lp (lv := [5, 10]) (vs := [e 5, a0]) hg (by kernel_rfl) (by kernel_rfl) (Eq.mp (by kernel_rfl) H)

/-! ### 16 donjon/safe.datas: params 2, captured 0, results [tmp 4] -/
noncomputable def L16 : List (Option Nat × List Nat) := [(some 0, [0, 1, 10]), (some 3, [5, 10])]
noncomputable def A16_0 (ds : List Nat) (Q : Value → AH → Prop) (t0 t1 t10 : Value) (h : AH) : Prop := Pt Pr K 16 none (retV Pr 16 Q) 24 [0, 1, 10] [.code (cc 16 2), .code (cc 16 3)] ds [t0, t1, t10] h
noncomputable def A16_1 (l : Nat) (Q : Value → AH → Prop) (t5 t10 : Value) (h : AH) : Prop := Pt Pr K 16 (some l) (roundOut l Q) 24 [5, 10] [.code (cc 16 116), .beginRound, .code (cc 16 117)] [] [t5, t10] h
theorem b16_0 {h : AH} {Q : Value → AH → Prop} {ds : List Nat} {t0 t1 t10 : Value} (H :
 thn (blkOf 28 t0) fun b1 =>
 alc h b1 fun p2 h0 =>
 alc h0 (.cells [(.slice none 0 0)] 26 (0, 0) true) fun p4 h3 =>
 thn (ldN h3 5 (pt p2 0 0)) fun v5 =>
 Cl Pr K 20 [v5, t1] h3 fun v6 h6 => -- donjon/safe.copies
 alc h6 (.marks true) fun d8 h7 =>
 ∀ e14 : Nat → Value, List.map e14 [5, 10] = [(pt p4 0 0), t10] →
 alc h7 (lp Pr 16 (dcd 58) 24 e14 d8 .ready none) fun l9 h10 =>
 OkR Pr K v6 l9 h10 fun v11 h12 =>
 thn (endV h12 l9) fun r13 => (fun x16 h17 =>
 EndX x16 (
 thn (ld1 h17 (pt p4 0 0)) fun v18 =>
 thn (lenS v18) fun v19 =>
 thn (biI .gtr v19 (I 0)) fun v20 =>
 Br v20 (
 thn (ld1 h17 (pt p4 0 0)) fun v21 =>
 Cl Pr K 22 [v21, (.func (.func 23) #[] #[(pt p4 0 0)])] h17 fun v22 h22 => -- slices.ContainsFunc[[]donjon/api.Line,donjon/api.Line]
 thn (closeMarks (d8 :: ds) h22) fun h23 =>
 Q v22 h23) (
 thn (closeMarks (d8 :: ds) h17) fun h21 =>
 Q (.bool false) h21)) (
 thn (closeMarks (d8 :: ds) h17) fun h18 =>
 Q (.bool false) h18) []) r13.1 r13.2
) : A16_0 ds Q t0 t1 t10 h := by intro e he; cases he; exact bD L16 (by kernel_rfl) H
theorem b16_1 {h : AH} {Q : Value → AH → Prop} {l : Nat} {t5 t10 : Value} (H :
 alc h (.cells [(I 0), (I 0), (I 0), (I 0), (I 0), (I 0)] 34 (0, 0) true) fun p1 h0 =>
 thn (stV h0 6 (pt p1 0 0) t10) fun h2 =>
 thn (beginV h2 l) fun h3 =>
 thn (ld1 h3 t5) fun v4 =>
 thn (padd 4 (pt p1 0 0)) fun v5 =>
 thn (ldN h3 2 v5) fun v6 =>
 thn (fillL [(I 0), (I 0)] [(0, 2, v6)]) fun l8 =>
 alcS h3 2 32 l8 1 1 fun s9 h7 =>
 thn (appV 2 16 32 h7 v4 s9) fun r10 => (fun v11 h12 =>
 thn (stV h12 1 t5 v11) fun h13 =>
 thn (setLoop h13 l .ready (some none)) fun h14 =>
 Q (.bool true) h14) r10.1 r10.2
) : A16_1 l Q t5 t10 h := by intro e he; cases he; exact bR L16 (by kernel_rfl) H
theorem c16 {h : AH} {Q : Value → AH → Prop} {a0 a1 : Value} (H : A16_0 [] Q a0 a1 undef h) : Cl Pr K 16 [a0, a1] h Q :=
  ok_enter (by kernel_rfl) (by kernel_rfl) (Eq.mp (by kernel_rfl) (H (fun i => ([a0, a1] : List Value).getD i undef) rfl))
theorem r16_0 {h : AH} {Q : Value → AH → Prop} {l d : Nat} {e : Nat → Value} {st : LoopState} {pd : Option Code} {t5 t10 : Value} {a0 : Value} (hg : h.get l = some (lp Pr 16 (dcd 58) 24 e d st pd)) (he : List.map e [5, 10] = [t5, t10]) (H : A16_1 l Q t5 a0 h) : OkF Pr K (.func (.yield l) #[] #[]) [a0] h Q := by
  cases he; refine okF_round ?_; exact enter_lp (lv := [5, 10]) (vs := [e 5, a0]) hg (by kernel_rfl) (by kernel_rfl) (Eq.mp (by kernel_rfl) H)

/-! ### 17 donjon/safe.tags: params 3, captured 0, results [cell 6 : 4] -/
noncomputable def L17 : List (Option Nat × List Nat) := [(some 0, [0, 1, 2, 16]), (some 3, [6, 7, 16])]
noncomputable def A17_0 (ds : List Nat) (Q : Value → AH → Prop) (t0 t1 t2 t16 : Value) (h : AH) : Prop := Pt Pr K 17 none (retV Pr 17 Q) 27 [0, 1, 2, 16] [.code (cc 17 2), .code (cc 17 3)] ds [t0, t1, t2, t16] h
noncomputable def A17_1 (l : Nat) (Q : Value → AH → Prop) (t6 t7 t16 : Value) (h : AH) : Prop := Pt Pr K 17 (some l) (roundOut l Q) 27 [6, 7, 16] [.code (cc 17 116), .beginRound, .code (cc 17 117)] [] [t6, t7, t16] h
theorem b17_0 {h : AH} {Q : Value → AH → Prop} {ds : List Nat} {t0 t1 t2 t16 : Value} (H :
 thn (blkOf 45 t0) fun b1 =>
 alc h b1 fun p2 h0 =>
 thn (blkOf 28 t1) fun b4 =>
 alc h0 b4 fun p5 h3 =>
 alc h3 (.cells [(.bool false)] 4 (0, 0) true) fun p7 h6 =>
 thn (ldN h6 7 (pt p2 0 0)) fun v8 =>
 thn (ldN h6 5 (pt p5 0 0)) fun v9 =>
 Cl Pr K 24 [v8, v9, t2] h6 fun v10 h10 => -- donjon/safe.entry
 alc h10 (.cells [(I 0), (.bool false)] 67 (0, 0) true) fun p12 h11 =>
 thn (stV h11 2 (pt p12 0 0) v10) fun h13 =>
 thn (ldN h13 5 (pt p5 0 0)) fun v14 =>
 Cl Pr K 20 [v14, t2] h13 fun v15 h15 => -- donjon/safe.copies
 alc h15 (.marks true) fun d17 h16 =>
 ∀ e23 : Nat → Value, List.map e23 [6, 7, 16] = [(pt p7 0 0), (pt p12 0 0), t16] →
 alc h16 (lp Pr 17 (dcd 58) 27 e23 d17 .ready none) fun l18 h19 =>
 OkR Pr K v15 l18 h19 fun v20 h21 =>
 thn (endV h21 l18) fun r22 => (fun x25 h26 =>
 EndX x25 (
 thn (stV h26 1 (pt p7 0 0) (.bool false)) fun h27 =>
 thn (closeMarks (d17 :: ds) h27) fun h28 =>
 thn (ld1 h28 (pt p7 0 0)) fun v29 =>
 Q v29 h28) (
 thn (closeMarks (d17 :: ds) h26) fun h27 =>
 thn (ld1 h27 (pt p7 0 0)) fun v28 =>
 Q v28 h27) []) r22.1 r22.2
) : A17_0 ds Q t0 t1 t2 t16 h := by intro e he; cases he; exact bD L17 (by kernel_rfl) H
theorem b17_1 {h : AH} {Q : Value → AH → Prop} {l : Nat} {t6 t7 t16 : Value} (H :
 alc h (.cells [(I 0), (I 0), (I 0), (I 0), (I 0), (I 0)] 34 (0, 0) true) fun p1 h0 =>
 thn (stV h0 6 (pt p1 0 0) t16) fun h2 =>
 thn (beginV h2 l) fun h3 =>
 thn (padd 1 t7) fun v4 =>
 thn (ld1 h3 v4) fun v5 =>
 thn (unV .not v5) fun v6 =>
 Br v6 (
 thn (padd 3 (pt p1 0 0)) fun v7 =>
 thn (ld1 h3 v7) fun v8 =>
 thn (padd 0 t7) fun v9 =>
 thn (ld1 h3 v9) fun v10 =>
 thn (biI .neq v8 v10) fun v11 =>
 Br v11 (
 thn (stV h3 1 t6 (.bool true)) fun h12 =>
 thn (setLoop h12 l .done (some (some .ret))) fun h13 =>
 Q (.bool false) h13) (
 thn (setLoop h3 l .ready (some none)) fun h12 =>
 Q (.bool true) h12)) (
 thn (setLoop h3 l .ready (some none)) fun h7 =>
 Q (.bool true) h7)
) : A17_1 l Q t6 t7 t16 h := by intro e he; cases he; exact bR L17 (by kernel_rfl) H
theorem c17 {h : AH} {Q : Value → AH → Prop} {a0 a1 a2 : Value} (H : A17_0 [] Q a0 a1 a2 undef h) : Cl Pr K 17 [a0, a1, a2] h Q :=
  ok_enter (by kernel_rfl) (by kernel_rfl) (Eq.mp (by kernel_rfl) (H (fun i => ([a0, a1, a2] : List Value).getD i undef) rfl))
theorem r17_0 {h : AH} {Q : Value → AH → Prop} {l d : Nat} {e : Nat → Value} {st : LoopState} {pd : Option Code} {t6 t7 t16 : Value} {a0 : Value} (hg : h.get l = some (lp Pr 17 (dcd 58) 27 e d st pd)) (he : List.map e [6, 7, 16] = [t6, t7, t16]) (H : A17_1 l Q t6 t7 a0 h) : OkF Pr K (.func (.yield l) #[] #[]) [a0] h Q := by
  cases he; refine okF_round ?_; exact enter_lp (lv := [6, 7, 16]) (vs := [e 6, e 7, a0]) hg (by kernel_rfl) (by kernel_rfl) (Eq.mp (by kernel_rfl) H)

/-! ### 18 donjon/safe.knows: params 2, captured 0, results [tmp 4] -/
noncomputable def L18 : List (Option Nat × List Nat) := [(some 0, [0, 1]), (some 3, [1, 5, 14, 15, 16]), (some 4, [1, 5, 14, 15, 16]), (some 7, [1, 5, 14, 15, 16])]
noncomputable def A18_0 (Q : Value → AH → Prop) (t0 t1 : Value) (h : AH) : Prop := Pt Pr K 18 none (retV Pr 18 Q) 37 [0, 1] [.code (cc 18 2), .code (cc 18 3)] [] [t0, t1] h
noncomputable def A18_1 (Q : Value → AH → Prop) (t1 t5 t14 t15 t16 : Value) (h : AH) : Prop := Pt Pr K 18 none (retV Pr 18 Q) 37 [1, 5, 14, 15, 16] [.code (cc 18 232), .code (cc 18 233), .inLoop (cc 18 116), .inBlock 0, .code (cc 18 15)] [] [t1, t5, t14, t15, t16] h
noncomputable def A18_2 (Q : Value → AH → Prop) (t1 t5 t14 t15 t16 : Value) (h : AH) : Prop := Pt Pr K 18 none (retV Pr 18 Q) 37 [1, 5, 14, 15, 16] [.code (cc 18 3736), .code (cc 18 3737), .inBlock 1, .code (cc 18 935), .inLoop (cc 18 116), .inBlock 0, .code (cc 18 15)] [] [t1, t5, t14, t15, t16] h
noncomputable def A18_3 (Q : Value → AH → Prop) (t1 t5 t14 t15 t16 : Value) (h : AH) : Prop := Pt Pr K 18 none (retV Pr 18 Q) 37 [1, 5, 14, 15, 16] [.code (cc 18 935), .inLoop (cc 18 116), .inBlock 0, .code (cc 18 15)] [] [t1, t5, t14, t15, t16] h
theorem b18_0 {h : AH} {Q : Value → AH → Prop} {t0 t1 : Value} (H :
 thn (blkOf 28 t0) fun b1 =>
 alc h b1 fun p2 h0 =>
 thn (padd 2 (pt p2 0 0)) fun v3 =>
 thn (ld1 h0 v3) fun v4 =>
 thn (idxS 2 v4 t1) fun v5 =>
 thn (ldN h0 2 v5) fun v6 =>
 alc h0 (.cells [(I 0), (.bool false)] 67 (0, 0) true) fun p8 h7 =>
 thn (stV h7 2 (pt p8 0 0) v6) fun h9 =>
 thn (padd 1 (pt p2 0 0)) fun v10 =>
 thn (ld1 h9 v10) fun v11 =>
 thn (lenS v11) fun v12 =>
 A18_1 Q t1 (pt p8 0 0) v11 v12 (I 0) h9
) : A18_0 Q t0 t1 h := by intro e he; cases he; exact bF L18 (by kernel_rfl) H
theorem b18_1 {h : AH} {Q : Value → AH → Prop} {t1 t5 t14 t15 t16 : Value} (H :
 thn (biI .lss t16 t15) fun v0 =>
 Br v0 (
 A18_2 Q t1 t5 t14 t15 t16 h) (
 Q (.bool false) h)
) : A18_1 Q t1 t5 t14 t15 t16 h := by intro e he; cases he; exact bF L18 (by kernel_rfl) H
theorem b18_2 {h : AH} {Q : Value → AH → Prop} {t1 t5 t14 t15 t16 : Value} (H :
 thn (idxS 3 t14 t16) fun v0 =>
 thn (ldN h 3 v0) fun v1 =>
 alc h (.cells [(I 0), (I 0), (I 0)] 36 (0, 0) true) fun p3 h2 =>
 thn (stV h2 3 (pt p3 0 0) v1) fun h4 =>
 thn (padd 1 t5) fun v5 =>
 thn (ld1 h4 v5) fun v6 =>
 thn (unV .not v6) fun v7 =>
 Br v7 (
 thn (padd 1 (pt p3 0 0)) fun v8 =>
 thn (ld1 h4 v8) fun v9 =>
 thn (biI .eql v9 t1) fun v10 =>
 Br v10 (
 thn (padd 2 (pt p3 0 0)) fun v11 =>
 thn (ld1 h4 v11) fun v12 =>
 thn (padd 0 t5) fun v13 =>
 thn (ld1 h4 v13) fun v14 =>
 thn (biI .neq v12 v14) fun v15 =>
 Br v15 (
 Q (.bool true) h4) (
 A18_3 Q t1 t5 t14 t15 t16 h4)) (
 thn (biI .add t16 (I 1)) fun v11 =>
 A18_1 Q t1 t5 t14 t15 v11 h4)) (
 thn (biI .add t16 (I 1)) fun v8 =>
 A18_1 Q t1 t5 t14 t15 v8 h4)
) : A18_2 Q t1 t5 t14 t15 t16 h := by intro e he; cases he; exact bF L18 (by kernel_rfl) H
theorem b18_3 {h : AH} {Q : Value → AH → Prop} {t1 t5 t14 t15 t16 : Value} (H :
 thn (biI .add t16 (I 1)) fun v0 =>
 A18_1 Q t1 t5 t14 t15 v0 h
) : A18_3 Q t1 t5 t14 t15 t16 h := by intro e he; cases he; exact bF L18 (by kernel_rfl) H
theorem c18 {h : AH} {Q : Value → AH → Prop} {a0 a1 : Value} (H : A18_0 Q a0 a1 h) : Cl Pr K 18 [a0, a1] h Q :=
  ok_enter (by kernel_rfl) (by kernel_rfl) (Eq.mp (by kernel_rfl) (H (fun i => ([a0, a1] : List Value).getD i undef) rfl))

/-! ### 19 donjon/safe.granted: params 3, captured 0, results [cell 6 : 4] -/
noncomputable def L19 : List (Option Nat × List Nat) := [(some 0, [0, 1, 2, 16]), (some 3, [6, 7, 16])]
noncomputable def A19_0 (ds : List Nat) (Q : Value → AH → Prop) (t0 t1 t2 t16 : Value) (h : AH) : Prop := Pt Pr K 19 none (retV Pr 19 Q) 27 [0, 1, 2, 16] [.code (cc 19 2), .code (cc 19 3)] ds [t0, t1, t2, t16] h
noncomputable def A19_1 (l : Nat) (Q : Value → AH → Prop) (t6 t7 t16 : Value) (h : AH) : Prop := Pt Pr K 19 (some l) (roundOut l Q) 27 [6, 7, 16] [.code (cc 19 116), .beginRound, .code (cc 19 117)] [] [t6, t7, t16] h
theorem b19_0 {h : AH} {Q : Value → AH → Prop} {ds : List Nat} {t0 t1 t2 t16 : Value} (H :
 thn (blkOf 45 t0) fun b1 =>
 alc h b1 fun p2 h0 =>
 thn (blkOf 28 t1) fun b4 =>
 alc h0 b4 fun p5 h3 =>
 alc h3 (.cells [(.bool false)] 4 (0, 0) true) fun p7 h6 =>
 thn (ldN h6 7 (pt p2 0 0)) fun v8 =>
 thn (ldN h6 5 (pt p5 0 0)) fun v9 =>
 Cl Pr K 24 [v8, v9, t2] h6 fun v10 h10 => -- donjon/safe.entry
 alc h10 (.cells [(I 0), (.bool false)] 67 (0, 0) true) fun p12 h11 =>
 thn (stV h11 2 (pt p12 0 0) v10) fun h13 =>
 thn (ldN h13 5 (pt p5 0 0)) fun v14 =>
 Cl Pr K 25 [v14, t2] h13 fun v15 h15 => -- donjon/safe.grants
 alc h15 (.marks true) fun d17 h16 =>
 ∀ e23 : Nat → Value, List.map e23 [6, 7, 16] = [(pt p7 0 0), (pt p12 0 0), t16] →
 alc h16 (lp Pr 19 (dcd 58) 27 e23 d17 .ready none) fun l18 h19 =>
 OkR Pr K v15 l18 h19 fun v20 h21 =>
 thn (endV h21 l18) fun r22 => (fun x25 h26 =>
 EndX x25 (
 thn (stV h26 1 (pt p7 0 0) (.bool false)) fun h27 =>
 thn (closeMarks (d17 :: ds) h27) fun h28 =>
 thn (ld1 h28 (pt p7 0 0)) fun v29 =>
 Q v29 h28) (
 thn (closeMarks (d17 :: ds) h26) fun h27 =>
 thn (ld1 h27 (pt p7 0 0)) fun v28 =>
 Q v28 h27) []) r22.1 r22.2
) : A19_0 ds Q t0 t1 t2 t16 h := by intro e he; cases he; exact bD L19 (by kernel_rfl) H
theorem b19_1 {h : AH} {Q : Value → AH → Prop} {l : Nat} {t6 t7 t16 : Value} (H :
 alc h (.cells [(I 0), (I 0), (I 0), (I 0), (I 0), (I 0), (I 0), (.bool false), (I 0)] 38 (0, 0) true) fun p1 h0 =>
 thn (stV h0 9 (pt p1 0 0) t16) fun h2 =>
 thn (beginV h2 l) fun h3 =>
 thn (padd 1 t7) fun v4 =>
 thn (ld1 h3 v4) fun v5 =>
 thn (unV .not v5) fun v6 =>
 Br v6 (
 thn (padd 3 (pt p1 0 0)) fun v7 =>
 thn (ld1 h3 v7) fun v8 =>
 thn (padd 0 t7) fun v9 =>
 thn (ld1 h3 v9) fun v10 =>
 thn (biI .neq v8 v10) fun v11 =>
 Br v11 (
 thn (stV h3 1 t6 (.bool true)) fun h12 =>
 thn (setLoop h12 l .done (some (some .ret))) fun h13 =>
 Q (.bool false) h13) (
 thn (setLoop h3 l .ready (some none)) fun h12 =>
 Q (.bool true) h12)) (
 thn (setLoop h3 l .ready (some none)) fun h7 =>
 Q (.bool true) h7)
) : A19_1 l Q t6 t7 t16 h := by intro e he; cases he; exact bR L19 (by kernel_rfl) H
theorem c19 {h : AH} {Q : Value → AH → Prop} {a0 a1 a2 : Value} (H : A19_0 [] Q a0 a1 a2 undef h) : Cl Pr K 19 [a0, a1, a2] h Q :=
  ok_enter (by kernel_rfl) (by kernel_rfl) (Eq.mp (by kernel_rfl) (H (fun i => ([a0, a1, a2] : List Value).getD i undef) rfl))
theorem r19_0 {h : AH} {Q : Value → AH → Prop} {l d : Nat} {e : Nat → Value} {st : LoopState} {pd : Option Code} {t6 t7 t16 : Value} {a0 : Value} (hg : h.get l = some (lp Pr 19 (dcd 58) 27 e d st pd)) (he : List.map e [6, 7, 16] = [t6, t7, t16]) (H : A19_1 l Q t6 t7 a0 h) : OkF Pr K (.func (.yield l) #[] #[]) [a0] h Q := by
  cases he; refine okF_round ?_; exact enter_lp (lv := [6, 7, 16]) (vs := [e 6, e 7, a0]) hg (by kernel_rfl) (by kernel_rfl) (Eq.mp (by kernel_rfl) H)

/-! ### 20 donjon/safe.copies: params 2, captured 0, results [tmp 4] -/
noncomputable def L20 : List (Option Nat × List Nat) := [(some 0, [0, 1])]
noncomputable def A20_0 (Q : Value → AH → Prop) (t0 t1 : Value) (h : AH) : Prop := Pt Pr K 20 none (retV Pr 20 Q) 6 [0, 1] [.code (cc 20 2), .code (cc 20 3)] [] [t0, t1] h
theorem b20_0 {h : AH} {Q : Value → AH → Prop} {t0 t1 : Value} (H :
 thn (blkOf 28 t0) fun b1 =>
 alc h b1 fun p2 h0 =>
 thn (blkOf 3 t1) fun b4 =>
 alc h0 b4 fun p5 h3 =>
 Q (.func (.func 26) #[] #[(pt p2 0 0), (pt p5 0 0)]) h3
) : A20_0 Q t0 t1 h := by intro e he; cases he; exact bF L20 (by kernel_rfl) H
theorem c20 {h : AH} {Q : Value → AH → Prop} {a0 a1 : Value} (H : A20_0 Q a0 a1 h) : Cl Pr K 20 [a0, a1] h Q :=
  ok_enter (by kernel_rfl) (by kernel_rfl) (Eq.mp (by kernel_rfl) (H (fun i => ([a0, a1] : List Value).getD i undef) rfl))

/-! ### 21 donjon/moesi.Fit: params 1, captured 0, results [tmp 2] -/
noncomputable def L21 : List (Option Nat × List Nat) := [(some 0, [0]), (some 3, [3, 4, 5, 6, 9, 10, 11]), (some 4, [3, 4, 5, 6, 9, 10, 11]), (some 6, [3, 4, 5, 6, 9, 10, 11]), (some 7, [3, 4, 5, 6, 8, 9, 10, 11]), (some 8, [3, 4, 5, 6, 8, 9, 10, 11]), (some 9, [3, 4, 5, 6, 8, 9, 10, 11]), (some 10, [3, 4, 5, 6, 8, 9, 10, 11]), (some 11, [3, 4, 5, 6, 8, 9, 10, 11]), (some 12, [3, 4, 5, 6, 9, 10, 11]), (some 13, [3, 4, 5, 6, 9, 10, 11])]
noncomputable def A21_0 (Q : Value → AH → Prop) (t0 : Value) (h : AH) : Prop := Pt Pr K 21 none (retV Pr 21 Q) 47 [0] [.code (cc 21 2), .code (cc 21 3)] [] [t0] h
noncomputable def A21_1 (Q : Value → AH → Prop) (t3 t4 t5 t6 t9 t10 t11 : Value) (h : AH) : Prop := Pt Pr K 21 none (retV Pr 21 Q) 47 [3, 4, 5, 6, 9, 10, 11] [.code (cc 21 872), .code (cc 21 873), .inLoop (cc 21 436), .inBlock 0, .code (cc 21 55), .inScope (cc 21 6)] [] [t3, t4, t5, t6, t9, t10, t11] h
noncomputable def A21_2 (Q : Value → AH → Prop) (t3 t4 t5 t6 t9 t10 t11 : Value) (h : AH) : Prop := Pt Pr K 21 none (retV Pr 21 Q) 47 [3, 4, 5, 6, 9, 10, 11] [.code (cc 21 13976), .code (cc 21 13977), .inBlock 1, .code (cc 21 3495), .inLoop (cc 21 436), .inBlock 0, .code (cc 21 55), .inScope (cc 21 6)] [] [t3, t4, t5, t6, t9, t10, t11] h
noncomputable def A21_3 (Q : Value → AH → Prop) (t3 t4 t5 t6 t9 t10 t11 : Value) (h : AH) : Prop := Pt Pr K 21 none (retV Pr 21 Q) 47 [3, 4, 5, 6, 9, 10, 11] [.code (cc 21 223636), .code (cc 21 223637), .code (cc 21 27955), .inBlock 1, .code (cc 21 3495), .inLoop (cc 21 436), .inBlock 0, .code (cc 21 55), .inScope (cc 21 6)] [] [t3, t4, t5, t6, t9, t10, t11] h
noncomputable def A21_4 (Q : Value → AH → Prop) (t3 t4 t5 t6 t8 t9 t10 t11 : Value) (h : AH) : Prop := Pt Pr K 21 none (retV Pr 21 Q) 47 [3, 4, 5, 6, 8, 9, 10, 11] [.code (cc 21 111820), .code (cc 21 111821), .code (cc 21 55911), .inBlock 1, .code (cc 21 3495), .inLoop (cc 21 436), .inBlock 0, .code (cc 21 55), .inScope (cc 21 6)] [] [t3, t4, t5, t6, t8, t9, t10, t11] h
noncomputable def A21_5 (Q : Value → AH → Prop) (t3 t4 t5 t6 t8 t9 t10 t11 : Value) (h : AH) : Prop := Pt Pr K 21 none (retV Pr 21 Q) 47 [3, 4, 5, 6, 8, 9, 10, 11] [.code (cc 21 223642), .code (cc 21 55911), .inBlock 1, .code (cc 21 3495), .inLoop (cc 21 436), .inBlock 0, .code (cc 21 55), .inScope (cc 21 6)] [] [t3, t4, t5, t6, t8, t9, t10, t11] h
noncomputable def A21_6 (Q : Value → AH → Prop) (t3 t4 t5 t6 t8 t9 t10 t11 : Value) (h : AH) : Prop := Pt Pr K 21 none (retV Pr 21 Q) 47 [3, 4, 5, 6, 8, 9, 10, 11] [.code (cc 21 223644), .code (cc 21 223645), .code (cc 21 111823), .inBlock 1, .code (cc 21 3495), .inLoop (cc 21 436), .inBlock 0, .code (cc 21 55), .inScope (cc 21 6)] [] [t3, t4, t5, t6, t8, t9, t10, t11] h
noncomputable def A21_7 (Q : Value → AH → Prop) (t3 t4 t5 t6 t8 t9 t10 t11 : Value) (h : AH) : Prop := Pt Pr K 21 none (retV Pr 21 Q) 47 [3, 4, 5, 6, 8, 9, 10, 11] [.code (cc 21 447290), .code (cc 21 111823), .inBlock 1, .code (cc 21 3495), .inLoop (cc 21 436), .inBlock 0, .code (cc 21 55), .inScope (cc 21 6)] [] [t3, t4, t5, t6, t8, t9, t10, t11] h
noncomputable def A21_8 (Q : Value → AH → Prop) (t3 t4 t5 t6 t8 t9 t10 t11 : Value) (h : AH) : Prop := Pt Pr K 21 none (retV Pr 21 Q) 47 [3, 4, 5, 6, 8, 9, 10, 11] [.code (cc 21 223646), .code (cc 21 223647), .inBlock 1, .code (cc 21 3495), .inLoop (cc 21 436), .inBlock 0, .code (cc 21 55), .inScope (cc 21 6)] [] [t3, t4, t5, t6, t8, t9, t10, t11] h
noncomputable def A21_9 (Q : Value → AH → Prop) (t3 t4 t5 t6 t9 t10 t11 : Value) (h : AH) : Prop := Pt Pr K 21 none (retV Pr 21 Q) 47 [3, 4, 5, 6, 9, 10, 11] [.code (cc 21 447294), .inBlock 1, .code (cc 21 3495), .inLoop (cc 21 436), .inBlock 0, .code (cc 21 55), .inScope (cc 21 6)] [] [t3, t4, t5, t6, t9, t10, t11] h
noncomputable def A21_10 (Q : Value → AH → Prop) (t3 t4 t5 t6 t9 t10 t11 : Value) (h : AH) : Prop := Pt Pr K 21 none (retV Pr 21 Q) 47 [3, 4, 5, 6, 9, 10, 11] [.code (cc 21 3495), .inLoop (cc 21 436), .inBlock 0, .code (cc 21 55), .inScope (cc 21 6)] [] [t3, t4, t5, t6, t9, t10, t11] h
theorem b21_0 {h : AH} {Q : Value → AH → Prop} {t0 : Value} (H :
 thn (lenS t0) fun v0 =>
 A21_1 Q (I 0) (I 0) (I 0) (I 0) t0 v0 (I 0) h
) : A21_0 Q t0 h := by intro e he; cases he; exact bF L21 (by kernel_rfl) H
theorem b21_1 {h : AH} {Q : Value → AH → Prop} {t3 t4 t5 t6 t9 t10 t11 : Value} (H :
 thn (biI .lss t11 t10) fun v0 =>
 Br v0 (
 A21_2 Q t3 t4 t5 t6 t9 t10 t11 h) (
 thn (biI .eql t6 (I 0)) fun v1 =>
 Br v1 (
 thn (biI .leq t4 (I 1)) fun v2 =>
 Br v2 (
 thn (biI .eql t5 (I 0)) fun v3 =>
 Br v3 (
 Q (.bool true) h) (
 thn (biI .eql t3 (I 1)) fun v4 =>
 Q v4 h)) (
 Q (.bool false) h)) (
 Q (.bool false) h))
) : A21_1 Q t3 t4 t5 t6 t9 t10 t11 h := by intro e he; cases he; exact bF L21 (by kernel_rfl) H
theorem b21_2 {h : AH} {Q : Value → AH → Prop} {t3 t4 t5 t6 t9 t10 t11 : Value} (H :
 thn (idxS 1 t9 t11) fun v0 =>
 thn (ld1 h v0) fun v1 =>
 Cl Pr K 27 [v1] h fun v2 h2 => -- donjon/moesi.is
 thn (unV .not v2) fun v3 =>
 Br v3 (
 A21_3 Q t3 t4 t5 t6 t9 t10 t11 h2) (
 A21_4 Q t3 t4 t5 t6 v1 t9 t10 t11 h2)
) : A21_2 Q t3 t4 t5 t6 t9 t10 t11 h := by intro e he; cases he; exact bF L21 (by kernel_rfl) H
theorem b21_3 {h : AH} {Q : Value → AH → Prop} {t3 t4 t5 t6 t9 t10 t11 : Value} (H :
 thn (biI .add t6 (I 1)) fun v0 =>
 thn (biI .add t11 (I 1)) fun v1 =>
 A21_1 Q t3 t4 t5 v0 t9 t10 v1 h
) : A21_3 Q t3 t4 t5 t6 t9 t10 t11 h := by intro e he; cases he; exact bF L21 (by kernel_rfl) H
theorem b21_4 {h : AH} {Q : Value → AH → Prop} {t3 t4 t5 t6 t8 t9 t10 t11 : Value} (H :
 Cl Pr K 28 [t8] h fun v0 h0 => -- donjon/moesi.Valid
 Br v0 (
 A21_5 Q t3 t4 t5 t6 t8 t9 t10 t11 h0) (
 A21_6 Q t3 t4 t5 t6 t8 t9 t10 t11 h0)
) : A21_4 Q t3 t4 t5 t6 t8 t9 t10 t11 h := by intro e he; cases he; exact bF L21 (by kernel_rfl) H
theorem b21_5 {h : AH} {Q : Value → AH → Prop} {t3 t4 t5 t6 t8 t9 t10 t11 : Value} (H :
 thn (biI .add t3 (I 1)) fun v0 =>
 Cl Pr K 29 [t8] h fun v1 h1 => -- donjon/moesi.Owner
 Br v1 (
 A21_7 Q v0 t4 t5 t6 t8 t9 t10 t11 h1) (
 A21_8 Q v0 t4 t5 t6 t8 t9 t10 t11 h1)
) : A21_5 Q t3 t4 t5 t6 t8 t9 t10 t11 h := by intro e he; cases he; exact bF L21 (by kernel_rfl) H
theorem b21_6 {h : AH} {Q : Value → AH → Prop} {t3 t4 t5 t6 t8 t9 t10 t11 : Value} (H :
 Cl Pr K 29 [t8] h fun v0 h0 => -- donjon/moesi.Owner
 Br v0 (
 A21_7 Q t3 t4 t5 t6 t8 t9 t10 t11 h0) (
 A21_8 Q t3 t4 t5 t6 t8 t9 t10 t11 h0)
) : A21_6 Q t3 t4 t5 t6 t8 t9 t10 t11 h := by intro e he; cases he; exact bF L21 (by kernel_rfl) H
theorem b21_7 {h : AH} {Q : Value → AH → Prop} {t3 t4 t5 t6 t8 t9 t10 t11 : Value} (H :
 thn (biI .add t4 (I 1)) fun v0 =>
 Cl Pr K 30 [t8] h fun v1 h1 => -- donjon/moesi.Store
 Br v1 (
 A21_9 Q t3 v0 t5 t6 t9 t10 t11 h1) (
 A21_10 Q t3 v0 t5 t6 t9 t10 t11 h1)
) : A21_7 Q t3 t4 t5 t6 t8 t9 t10 t11 h := by intro e he; cases he; exact bF L21 (by kernel_rfl) H
theorem b21_8 {h : AH} {Q : Value → AH → Prop} {t3 t4 t5 t6 t8 t9 t10 t11 : Value} (H :
 Cl Pr K 30 [t8] h fun v0 h0 => -- donjon/moesi.Store
 Br v0 (
 A21_9 Q t3 t4 t5 t6 t9 t10 t11 h0) (
 A21_10 Q t3 t4 t5 t6 t9 t10 t11 h0)
) : A21_8 Q t3 t4 t5 t6 t8 t9 t10 t11 h := by intro e he; cases he; exact bF L21 (by kernel_rfl) H
theorem b21_9 {h : AH} {Q : Value → AH → Prop} {t3 t4 t5 t6 t9 t10 t11 : Value} (H :
 thn (biI .add t5 (I 1)) fun v0 =>
 thn (biI .add t11 (I 1)) fun v1 =>
 A21_1 Q t3 t4 v0 t6 t9 t10 v1 h
) : A21_9 Q t3 t4 t5 t6 t9 t10 t11 h := by intro e he; cases he; exact bF L21 (by kernel_rfl) H
theorem b21_10 {h : AH} {Q : Value → AH → Prop} {t3 t4 t5 t6 t9 t10 t11 : Value} (H :
 thn (biI .add t11 (I 1)) fun v0 =>
 A21_1 Q t3 t4 t5 t6 t9 t10 v0 h
) : A21_10 Q t3 t4 t5 t6 t9 t10 t11 h := by intro e he; cases he; exact bF L21 (by kernel_rfl) H
theorem c21 {h : AH} {Q : Value → AH → Prop} {a0 : Value} (H : A21_0 Q a0 h) : Cl Pr K 21 [a0] h Q :=
  ok_enter (by kernel_rfl) (by kernel_rfl) (Eq.mp (by kernel_rfl) (H (fun i => ([a0] : List Value).getD i undef) rfl))

/-! ### 22 slices.ContainsFunc[[]donjon/api.Line,donjon/api.Line]: params 2, captured 0, results [tmp 4] -/
noncomputable def L22 : List (Option Nat × List Nat) := [(some 0, [0, 1])]
noncomputable def A22_0 (Q : Value → AH → Prop) (t0 t1 : Value) (h : AH) : Prop := Pt Pr K 22 none (retV Pr 22 Q) 9 [0, 1] [.code (cc 22 2), .code (cc 22 3)] [] [t0, t1] h
theorem b22_0 {h : AH} {Q : Value → AH → Prop} {t0 t1 : Value} (H :
 Cl Pr K 31 [t0, t1] h fun v0 h0 => -- slices.IndexFunc[[]donjon/api.Line,donjon/api.Line]
 thn (biI .geq v0 (I 0)) fun v1 =>
 Q v1 h0
) : A22_0 Q t0 t1 h := by intro e he; cases he; exact bF L22 (by kernel_rfl) H
theorem c22 {h : AH} {Q : Value → AH → Prop} {a0 a1 : Value} (H : A22_0 Q a0 a1 h) : Cl Pr K 22 [a0, a1] h Q :=
  ok_enter (by kernel_rfl) (by kernel_rfl) (Eq.mp (by kernel_rfl) (H (fun i => ([a0, a1] : List Value).getD i undef) rfl))

/-! ### 23 donjon/safe.datas$1: params 1, captured 1, results [tmp 3] -/
noncomputable def L23 : List (Option Nat × List Nat) := [(some 0, [0, 1])]
noncomputable def A23_0 (Q : Value → AH → Prop) (t0 t1 : Value) (h : AH) : Prop := Pt Pr K 23 none (retV Pr 23 Q) 9 [0, 1] [.code (cc 23 2), .code (cc 23 3)] [] [t0, t1] h
theorem b23_0 {h : AH} {Q : Value → AH → Prop} {t0 t1 : Value} (H :
 thn (blkOf 32 t0) fun b1 =>
 alc h b1 fun p2 h0 =>
 resv h0 6 fun r4 h3 =>
 thn (ldN h3 2 (pt p2 0 0)) fun v5 =>
 thn (ld1 h3 t1) fun v6 =>
 thn (idxS 2 v6 (I 0)) fun v7 =>
 thn (ldN h3 2 v7) fun v8 =>
 thn (biA [0, 0] .neq v5 v8) fun v9 =>
 Q v9 h3
) : A23_0 Q t0 t1 h := by intro e he; cases he; exact bF L23 (by kernel_rfl) H
theorem c23 {h : AH} {Q : Value → AH → Prop} {a0 a1 : Value} (H : A23_0 Q a0 a1 h) : Cl Pr K 23 [a0, a1] h Q :=
  ok_enter (by kernel_rfl) (by kernel_rfl) (Eq.mp (by kernel_rfl) (H (fun i => ([a0, a1] : List Value).getD i undef) rfl))

/-! ### 24 donjon/safe.entry: params 3, captured 0, results [cell 6 : 67] -/
noncomputable def L24 : List (Option Nat × List Nat) := [(some 0, [0, 1, 2])]
noncomputable def A24_0 (Q : Value → AH → Prop) (t0 t1 t2 : Value) (h : AH) : Prop := Pt Pr K 24 none (retV Pr 24 Q) 20 [0, 1, 2] [.code (cc 24 2), .code (cc 24 3)] [] [t0, t1, t2] h
theorem b24_0 {h : AH} {Q : Value → AH → Prop} {t0 t1 t2 : Value} (H :
 thn (blkOf 45 t0) fun b1 =>
 alc h b1 fun p2 h0 =>
 thn (blkOf 28 t1) fun b4 =>
 alc h0 b4 fun p5 h3 =>
 alc h3 (.cells [(I 0), (.bool false)] 67 (0, 0) true) fun p7 h6 =>
 thn (ldN h6 7 (pt p2 0 0)) fun v8 =>
 Cl Pr K 32 [v8, t2] h6 fun v9 h9 => -- donjon/place.Granule
 thn (extV 0 v9) fun v10 =>
 thn (extV 1 v9) fun v11 =>
 thn (padd 2 (pt p5 0 0)) fun v12 =>
 thn (ld1 h9 v12) fun v13 =>
 thn (idxS 2 v13 v10) fun v14 =>
 thn (ldN h9 2 v14) fun v15 =>
 thn (stV h9 2 (pt p7 0 0) v15) fun h16 =>
 thn (ldN h16 2 (pt p7 0 0)) fun v17 =>
 Q v17 h16
) : A24_0 Q t0 t1 t2 h := by intro e he; cases he; exact bF L24 (by kernel_rfl) H
theorem c24 {h : AH} {Q : Value → AH → Prop} {a0 a1 a2 : Value} (H : A24_0 Q a0 a1 a2 h) : Cl Pr K 24 [a0, a1, a2] h Q :=
  ok_enter (by kernel_rfl) (by kernel_rfl) (Eq.mp (by kernel_rfl) (H (fun i => ([a0, a1, a2] : List Value).getD i undef) rfl))

/-! ### 25 donjon/safe.grants: params 2, captured 0, results [tmp 4] -/
noncomputable def L25 : List (Option Nat × List Nat) := [(some 0, [0, 1])]
noncomputable def A25_0 (Q : Value → AH → Prop) (t0 t1 : Value) (h : AH) : Prop := Pt Pr K 25 none (retV Pr 25 Q) 6 [0, 1] [.code (cc 25 2), .code (cc 25 3)] [] [t0, t1] h
theorem b25_0 {h : AH} {Q : Value → AH → Prop} {t0 t1 : Value} (H :
 thn (blkOf 28 t0) fun b1 =>
 alc h b1 fun p2 h0 =>
 thn (blkOf 3 t1) fun b4 =>
 alc h0 b4 fun p5 h3 =>
 Q (.func (.func 33) #[] #[(pt p2 0 0), (pt p5 0 0)]) h3
) : A25_0 Q t0 t1 h := by intro e he; cases he; exact bF L25 (by kernel_rfl) H
theorem c25 {h : AH} {Q : Value → AH → Prop} {a0 a1 : Value} (H : A25_0 Q a0 a1 h) : Cl Pr K 25 [a0, a1] h Q :=
  ok_enter (by kernel_rfl) (by kernel_rfl) (Eq.mp (by kernel_rfl) (H (fun i => ([a0, a1] : List Value).getD i undef) rfl))

/-! ### 26 donjon/safe.copies$1: params 1, captured 2, results [] -/
noncomputable def L26 : List (Option Nat × List Nat) := [(some 0, [0, 1, 2]), (some 1, [0, 2, 7, 8, 9]), (some 2, [0, 2, 7, 8, 9]), (some 4, [0, 2, 7, 8, 9])]
noncomputable def A26_0 (Q : Value → AH → Prop) (t0 t1 t2 : Value) (h : AH) : Prop := Pt Pr K 26 none (retV Pr 26 Q) 24 [0, 1, 2] [.code (cc 26 2), .code (cc 26 3)] [] [t0, t1, t2] h
noncomputable def A26_1 (Q : Value → AH → Prop) (t0 t2 t7 t8 t9 : Value) (h : AH) : Prop := Pt Pr K 26 none (retV Pr 26 Q) 24 [0, 2, 7, 8, 9] [.code (cc 26 24), .code (cc 26 25), .inLoop (cc 26 12), .inBlock 0] [] [t0, t2, t7, t8, t9] h
noncomputable def A26_2 (Q : Value → AH → Prop) (t0 t2 t7 t8 t9 : Value) (h : AH) : Prop := Pt Pr K 26 none (retV Pr 26 Q) 24 [0, 2, 7, 8, 9] [.code (cc 26 408), .code (cc 26 409), .inBlock 1, .code (cc 26 103), .inLoop (cc 26 12), .inBlock 0] [] [t0, t2, t7, t8, t9] h
noncomputable def A26_3 (Q : Value → AH → Prop) (t0 t2 t7 t8 t9 : Value) (h : AH) : Prop := Pt Pr K 26 none (retV Pr 26 Q) 24 [0, 2, 7, 8, 9] [.code (cc 26 103), .inLoop (cc 26 12), .inBlock 0] [] [t0, t2, t7, t8, t9] h
theorem b26_0 {h : AH} {Q : Value → AH → Prop} {t0 t1 t2 : Value} (H :
 thn (padd 0 t1) fun v0 =>
 thn (ld1 h v0) fun v1 =>
 thn (lenS v1) fun v2 =>
 A26_1 Q t0 t2 v1 v2 (I 0) h
) : A26_0 Q t0 t1 t2 h := by intro e he; cases he; exact bF L26 (by kernel_rfl) H
theorem b26_1 {h : AH} {Q : Value → AH → Prop} {t0 t2 t7 t8 t9 : Value} (H :
 thn (biI .lss t9 t8) fun v0 =>
 Br v0 (
 A26_2 Q t0 t2 t7 t8 t9 h) (
 Q (.tuple ⟨[]⟩) h)
) : A26_1 Q t0 t2 t7 t8 t9 h := by intro e he; cases he; exact bF L26 (by kernel_rfl) H
theorem b26_2 {h : AH} {Q : Value → AH → Prop} {t0 t2 t7 t8 t9 : Value} (H :
 thn (idxS 6 t7 t9) fun v0 =>
 thn (ldN h 6 v0) fun v1 =>
 alc h (.cells [(I 0), (I 0), (I 0), (I 0), (I 0), (I 0)] 34 (0, 0) true) fun p3 h2 =>
 thn (stV h2 6 (pt p3 0 0) v1) fun h4 =>
 thn (padd 1 (pt p3 0 0)) fun v5 =>
 thn (ld1 h4 v5) fun v6 =>
 thn (ld1 h4 t2) fun v7 =>
 thn (biI .eql v6 v7) fun v8 =>
 Br v8 (
 thn (ldN h4 6 (pt p3 0 0)) fun v9 =>
 OkF Pr K t0 [v9] h4 fun v10 h10 =>
 thn (unV .not v10) fun v11 =>
 Br v11 (
 Q (.tuple ⟨[]⟩) h10) (
 A26_3 Q t0 t2 t7 t8 t9 h10)) (
 thn (biI .add t9 (I 1)) fun v9 =>
 A26_1 Q t0 t2 t7 t8 v9 h4)
) : A26_2 Q t0 t2 t7 t8 t9 h := by intro e he; cases he; exact bF L26 (by kernel_rfl) H
theorem b26_3 {h : AH} {Q : Value → AH → Prop} {t0 t2 t7 t8 t9 : Value} (H :
 thn (biI .add t9 (I 1)) fun v0 =>
 A26_1 Q t0 t2 t7 t8 v0 h
) : A26_3 Q t0 t2 t7 t8 t9 h := by intro e he; cases he; exact bF L26 (by kernel_rfl) H
theorem c26 {h : AH} {Q : Value → AH → Prop} {a0 a1 a2 : Value} (H : A26_0 Q a0 a1 a2 h) : Cl Pr K 26 [a0, a1, a2] h Q :=
  ok_enter (by kernel_rfl) (by kernel_rfl) (Eq.mp (by kernel_rfl) (H (fun i => ([a0, a1, a2] : List Value).getD i undef) rfl))

/-! ### 27 donjon/moesi.is: params 1, captured 0, results [tmp 2] -/
noncomputable def L27 : List (Option Nat × List Nat) := [(some 0, [0])]
noncomputable def A27_0 (Q : Value → AH → Prop) (t0 : Value) (h : AH) : Prop := Pt Pr K 27 none (retV Pr 27 Q) 9 [0] [.code (cc 27 2), .code (cc 27 3)] [] [t0] h
theorem b27_0 {h : AH} {Q : Value → AH → Prop} {t0 : Value} (H :
 thn (biI .geq t0 (I 0)) fun v0 =>
 Br v0 (
 thn (biI .lss t0 (I 5)) fun v1 =>
 Q v1 h) (
 Q (.bool false) h)
) : A27_0 Q t0 h := by intro e he; cases he; exact bF L27 (by kernel_rfl) H
theorem c27 {h : AH} {Q : Value → AH → Prop} {a0 : Value} (H : A27_0 Q a0 h) : Cl Pr K 27 [a0] h Q :=
  ok_enter (by kernel_rfl) (by kernel_rfl) (Eq.mp (by kernel_rfl) (H (fun i => ([a0] : List Value).getD i undef) rfl))

/-! ### 28 donjon/moesi.Valid: params 1, captured 0, results [tmp 2] -/
noncomputable def L28 : List (Option Nat × List Nat) := [(some 0, [0])]
noncomputable def A28_0 (Q : Value → AH → Prop) (t0 : Value) (h : AH) : Prop := Pt Pr K 28 none (retV Pr 28 Q) 9 [0] [.code (cc 28 2), .code (cc 28 3)] [] [t0] h
theorem b28_0 {h : AH} {Q : Value → AH → Prop} {t0 : Value} (H :
 Cl Pr K 27 [t0] h fun v0 h0 => -- donjon/moesi.is
 Br v0 (
 thn (biI .neq t0 (I 0)) fun v1 =>
 Q v1 h0) (
 Q (.bool false) h0)
) : A28_0 Q t0 h := by intro e he; cases he; exact bF L28 (by kernel_rfl) H
theorem c28 {h : AH} {Q : Value → AH → Prop} {a0 : Value} (H : A28_0 Q a0 h) : Cl Pr K 28 [a0] h Q :=
  ok_enter (by kernel_rfl) (by kernel_rfl) (Eq.mp (by kernel_rfl) (H (fun i => ([a0] : List Value).getD i undef) rfl))

/-! ### 29 donjon/moesi.Owner: params 1, captured 0, results [tmp 2] -/
noncomputable def L29 : List (Option Nat × List Nat) := [(some 0, [0])]
noncomputable def A29_0 (Q : Value → AH → Prop) (t0 : Value) (h : AH) : Prop := Pt Pr K 29 none (retV Pr 29 Q) 11 [0] [.code (cc 29 2), .code (cc 29 3)] [] [t0] h
theorem b29_0 {h : AH} {Q : Value → AH → Prop} {t0 : Value} (H :
 Cl Pr K 27 [t0] h fun v0 h0 => -- donjon/moesi.is
 Br v0 (
 thn (idxA 5 8 (.pointer (some ⟨1, 0, none⟩)) t0) fun v1 =>
 thn (padd 4 v1) fun v2 =>
 thn (ld1 h0 v2) fun v3 =>
 Q v3 h0) (
 Q (.bool false) h0)
) : A29_0 Q t0 h := by intro e he; cases he; exact bF L29 (by kernel_rfl) H
theorem c29 {h : AH} {Q : Value → AH → Prop} {a0 : Value} (H : A29_0 Q a0 h) : Cl Pr K 29 [a0] h Q :=
  ok_enter (by kernel_rfl) (by kernel_rfl) (Eq.mp (by kernel_rfl) (H (fun i => ([a0] : List Value).getD i undef) rfl))

/-! ### 30 donjon/moesi.Store: params 1, captured 0, results [tmp 2] -/
noncomputable def L30 : List (Option Nat × List Nat) := [(some 0, [0])]
noncomputable def A30_0 (Q : Value → AH → Prop) (t0 : Value) (h : AH) : Prop := Pt Pr K 30 none (retV Pr 30 Q) 11 [0] [.code (cc 30 2), .code (cc 30 3)] [] [t0] h
theorem b30_0 {h : AH} {Q : Value → AH → Prop} {t0 : Value} (H :
 Cl Pr K 27 [t0] h fun v0 h0 => -- donjon/moesi.is
 Br v0 (
 thn (idxA 5 8 (.pointer (some ⟨1, 0, none⟩)) t0) fun v1 =>
 thn (padd 2 v1) fun v2 =>
 thn (ld1 h0 v2) fun v3 =>
 Q v3 h0) (
 Q (.bool false) h0)
) : A30_0 Q t0 h := by intro e he; cases he; exact bF L30 (by kernel_rfl) H
theorem c30 {h : AH} {Q : Value → AH → Prop} {a0 : Value} (H : A30_0 Q a0 h) : Cl Pr K 30 [a0] h Q :=
  ok_enter (by kernel_rfl) (by kernel_rfl) (Eq.mp (by kernel_rfl) (H (fun i => ([a0] : List Value).getD i undef) rfl))

/-! ### 31 slices.IndexFunc[[]donjon/api.Line,donjon/api.Line]: params 2, captured 0, results [tmp 4] -/
noncomputable def L31 : List (Option Nat × List Nat) := [(some 0, [0, 1]), (some 2, [0, 1, 7, 8]), (some 3, [0, 1, 7, 8]), (some 6, [0, 1, 7, 8])]
noncomputable def A31_0 (Q : Value → AH → Prop) (t0 t1 : Value) (h : AH) : Prop := Pt Pr K 31 none (retV Pr 31 Q) 19 [0, 1] [.code (cc 31 2), .code (cc 31 3)] [] [t0, t1] h
noncomputable def A31_1 (Q : Value → AH → Prop) (t0 t1 t7 t8 : Value) (h : AH) : Prop := Pt Pr K 31 none (retV Pr 31 Q) 19 [0, 1, 7, 8] [.code (cc 31 104), .code (cc 31 105), .inLoop (cc 31 52), .inBlock 0, .code (cc 31 7)] [] [t0, t1, t7, t8] h
noncomputable def A31_2 (Q : Value → AH → Prop) (t0 t1 t7 t8 : Value) (h : AH) : Prop := Pt Pr K 31 none (retV Pr 31 Q) 19 [0, 1, 7, 8] [.code (cc 31 1688), .code (cc 31 1689), .inBlock 1, .code (cc 31 423), .inLoop (cc 31 52), .inBlock 0, .code (cc 31 7)] [] [t0, t1, t7, t8] h
noncomputable def A31_3 (Q : Value → AH → Prop) (t0 t1 t7 t8 : Value) (h : AH) : Prop := Pt Pr K 31 none (retV Pr 31 Q) 19 [0, 1, 7, 8] [.code (cc 31 423), .inLoop (cc 31 52), .inBlock 0, .code (cc 31 7)] [] [t0, t1, t7, t8] h
theorem b31_0 {h : AH} {Q : Value → AH → Prop} {t0 t1 : Value} (H :
 thn (lenS t0) fun v0 =>
 A31_1 Q t0 t1 v0 (I 0) h
) : A31_0 Q t0 t1 h := by intro e he; cases he; exact bF L31 (by kernel_rfl) H
theorem b31_1 {h : AH} {Q : Value → AH → Prop} {t0 t1 t7 t8 : Value} (H :
 thn (biI .lss t8 t7) fun v0 =>
 Br v0 (
 A31_2 Q t0 t1 t7 t8 h) (
 Q (I (-1)) h)
) : A31_1 Q t0 t1 t7 t8 h := by intro e he; cases he; exact bF L31 (by kernel_rfl) H
theorem b31_2 {h : AH} {Q : Value → AH → Prop} {t0 t1 t7 t8 : Value} (H :
 thn (idxS 2 t0 t8) fun v0 =>
 thn (ldN h 2 v0) fun v1 =>
 OkF Pr K t1 [v1] h fun v2 h2 =>
 Br v2 (
 Q t8 h2) (
 A31_3 Q t0 t1 t7 t8 h2)
) : A31_2 Q t0 t1 t7 t8 h := by intro e he; cases he; exact bF L31 (by kernel_rfl) H
theorem b31_3 {h : AH} {Q : Value → AH → Prop} {t0 t1 t7 t8 : Value} (H :
 thn (biI .add t8 (I 1)) fun v0 =>
 A31_1 Q t0 t1 t7 v0 h
) : A31_3 Q t0 t1 t7 t8 h := by intro e he; cases he; exact bF L31 (by kernel_rfl) H
theorem c31 {h : AH} {Q : Value → AH → Prop} {a0 a1 : Value} (H : A31_0 Q a0 a1 h) : Cl Pr K 31 [a0, a1] h Q :=
  ok_enter (by kernel_rfl) (by kernel_rfl) (Eq.mp (by kernel_rfl) (H (fun i => ([a0, a1] : List Value).getD i undef) rfl))

/-! ### 32 donjon/place.Granule: params 2, captured 0, results [tmp 4, tmp 5] -/
noncomputable def L32 : List (Option Nat × List Nat) := [(some 0, [0, 1])]
noncomputable def A32_0 (Q : Value → AH → Prop) (t0 t1 : Value) (h : AH) : Prop := Pt Pr K 32 none (retV Pr 32 Q) 16 [0, 1] [.code (cc 32 2), .code (cc 32 3)] [] [t0, t1] h
theorem b32_0 {h : AH} {Q : Value → AH → Prop} {t0 t1 : Value} (H :
 thn (blkOf 45 t0) fun b1 =>
 alc h b1 fun p2 h0 =>
 thn (biI .lss t1 (I 0)) fun v3 =>
 Br v3 (
 Q (.tuple ⟨[(I 0), (I 10)]⟩) h0) (
 thn (ldN h0 7 (pt p2 0 0)) fun v4 =>
 Cl Pr K 11 [v4] h0 fun v5 h5 => -- donjon/place.Lines
 thn (biI .geq t1 v5) fun v6 =>
 Br v6 (
 Q (.tuple ⟨[(I 0), (I 10)]⟩) h5) (
 thn (biI .quo t1 (I 2)) fun v7 =>
 Q (.tuple ⟨[v7, (I 0)]⟩) h5))
) : A32_0 Q t0 t1 h := by intro e he; cases he; exact bF L32 (by kernel_rfl) H
theorem c32 {h : AH} {Q : Value → AH → Prop} {a0 a1 : Value} (H : A32_0 Q a0 a1 h) : Cl Pr K 32 [a0, a1] h Q :=
  ok_enter (by kernel_rfl) (by kernel_rfl) (Eq.mp (by kernel_rfl) (H (fun i => ([a0, a1] : List Value).getD i undef) rfl))

/-! ### 33 donjon/safe.grants$1: params 1, captured 2, results [] -/
noncomputable def L33 : List (Option Nat × List Nat) := [(some 0, [0, 1, 2]), (some 1, [0, 2, 7, 8, 9]), (some 2, [0, 2, 7, 8, 9]), (some 4, [0, 2, 7, 8, 9])]
noncomputable def A33_0 (Q : Value → AH → Prop) (t0 t1 t2 : Value) (h : AH) : Prop := Pt Pr K 33 none (retV Pr 33 Q) 29 [0, 1, 2] [.code (cc 33 2), .code (cc 33 3)] [] [t0, t1, t2] h
noncomputable def A33_1 (Q : Value → AH → Prop) (t0 t2 t7 t8 t9 : Value) (h : AH) : Prop := Pt Pr K 33 none (retV Pr 33 Q) 29 [0, 2, 7, 8, 9] [.code (cc 33 24), .code (cc 33 25), .inLoop (cc 33 12), .inBlock 0] [] [t0, t2, t7, t8, t9] h
noncomputable def A33_2 (Q : Value → AH → Prop) (t0 t2 t7 t8 t9 : Value) (h : AH) : Prop := Pt Pr K 33 none (retV Pr 33 Q) 29 [0, 2, 7, 8, 9] [.code (cc 33 408), .code (cc 33 409), .inBlock 1, .code (cc 33 103), .inLoop (cc 33 12), .inBlock 0] [] [t0, t2, t7, t8, t9] h
noncomputable def A33_3 (Q : Value → AH → Prop) (t0 t2 t7 t8 t9 : Value) (h : AH) : Prop := Pt Pr K 33 none (retV Pr 33 Q) 29 [0, 2, 7, 8, 9] [.code (cc 33 103), .inLoop (cc 33 12), .inBlock 0] [] [t0, t2, t7, t8, t9] h
theorem b33_0 {h : AH} {Q : Value → AH → Prop} {t0 t1 t2 : Value} (H :
 thn (padd 3 t1) fun v0 =>
 thn (ld1 h v0) fun v1 =>
 thn (lenS v1) fun v2 =>
 A33_1 Q t0 t2 v1 v2 (I 0) h
) : A33_0 Q t0 t1 t2 h := by intro e he; cases he; exact bF L33 (by kernel_rfl) H
theorem b33_1 {h : AH} {Q : Value → AH → Prop} {t0 t2 t7 t8 t9 : Value} (H :
 thn (biI .lss t9 t8) fun v0 =>
 Br v0 (
 A33_2 Q t0 t2 t7 t8 t9 h) (
 Q (.tuple ⟨[]⟩) h)
) : A33_1 Q t0 t2 t7 t8 t9 h := by intro e he; cases he; exact bF L33 (by kernel_rfl) H
theorem b33_2 {h : AH} {Q : Value → AH → Prop} {t0 t2 t7 t8 t9 : Value} (H :
 thn (idxS 9 t7 t9) fun v0 =>
 thn (ldN h 9 v0) fun v1 =>
 alc h (.cells [(I 0), (I 0), (I 0), (I 0), (I 0), (I 0), (I 0), (.bool false), (I 0)] 38 (0, 0) true) fun p3 h2 =>
 thn (stV h2 9 (pt p3 0 0) v1) fun h4 =>
 thn (padd 0 (pt p3 0 0)) fun v5 =>
 thn (ld1 h4 v5) fun v6 =>
 thn (biI .eql v6 (I 8)) fun v7 =>
 Br v7 (
 thn (padd 2 (pt p3 0 0)) fun v8 =>
 thn (ld1 h4 v8) fun v9 =>
 thn (ld1 h4 t2) fun v10 =>
 thn (biI .eql v9 v10) fun v11 =>
 Br v11 (
 thn (ldN h4 9 (pt p3 0 0)) fun v12 =>
 OkF Pr K t0 [v12] h4 fun v13 h13 =>
 thn (unV .not v13) fun v14 =>
 Br v14 (
 Q (.tuple ⟨[]⟩) h13) (
 A33_3 Q t0 t2 t7 t8 t9 h13)) (
 thn (biI .add t9 (I 1)) fun v12 =>
 A33_1 Q t0 t2 t7 t8 v12 h4)) (
 thn (biI .add t9 (I 1)) fun v8 =>
 A33_1 Q t0 t2 t7 t8 v8 h4)
) : A33_2 Q t0 t2 t7 t8 t9 h := by intro e he; cases he; exact bF L33 (by kernel_rfl) H
theorem b33_3 {h : AH} {Q : Value → AH → Prop} {t0 t2 t7 t8 t9 : Value} (H :
 thn (biI .add t9 (I 1)) fun v0 =>
 A33_1 Q t0 t2 t7 t8 v0 h
) : A33_3 Q t0 t2 t7 t8 t9 h := by intro e he; cases he; exact bF L33 (by kernel_rfl) H
theorem c33 {h : AH} {Q : Value → AH → Prop} {a0 a1 a2 : Value} (H : A33_0 Q a0 a1 a2 h) : Cl Pr K 33 [a0, a1, a2] h Q :=
  ok_enter (by kernel_rfl) (by kernel_rfl) (Eq.mp (by kernel_rfl) (H (fun i => ([a0, a1, a2] : List Value).getD i undef) rfl))

end Go.Proofs.YtemlagiabnkceaaDoor
end
