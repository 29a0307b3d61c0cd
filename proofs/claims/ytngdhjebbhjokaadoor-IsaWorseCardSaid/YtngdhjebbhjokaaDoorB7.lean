/- A part of the proof. -/
import Derived.Test.YtngdhjebbhjokaaDoorChecked
import Derived.Test.YtngdhjebbhjokaaDoorB5
import Derived.Test.YtngdhjebbhjokaaDoorB6
import Derived.KernelRfl
section
namespace Go.Proofs.YtngdhjebbhjokaaDoor
open Go Go.Ab
set_option maxRecDepth 100000
noncomputable abbrev Pr : Program := Tryd.prog
noncomputable def cc (f n : Nat) : Code := cd Pr f (dcd n)
/-- what Go's library answers is known -/
noncomputable def K0 : FuncId → List Value → Option Ans := fun f args => match f, args with
  | 16, [.int .i64 n] => if -9223372036854775808 ≤ n ∧ n ≤ 9223372036854775807 then some (.val (.string ⟨(Lib.itoa n).toArray⟩)) else none
  | 19, [.string s, .string ⟨⟨[c]⟩⟩] => some (.val (I (Lib.countByte s.data.toList c)))
  | 32, [.string s, .string ⟨⟨[c]⟩⟩] => some (.val (I (Lib.indexByte s.data.toList c)))
  | 39, [.string s, .string ⟨⟨[c]⟩⟩] => some (.val (I (Lib.indexByte s.data.toList c)))
  | 36, [.string s] => if s.size ≤ 281474976710656 then (match Lib.atoiAll s.data.toList with
    | .ok v => some (.val (.tuple ⟨[I v, .nilIface]⟩))
    | Lib.NumEnd.syntax => some (.val (.tuple ⟨[I 0, .iface 91 top]⟩))
    | .range => some (.val (.tuple ⟨[I (Lib.atoiSat s.data.toList), .iface 91 top]⟩))) else none
  | _, _ => none
noncomputable def K : FuncId → List Value → Option Ans := addK K0 7 (.bool true)
/-! ### 3 donjon/donjonlaw10.IsaPrints: params 1, captured 0, results [tmp 2] -/
noncomputable def L3 : List (Option Nat × List Nat) := [(some 0, [0]), (some 3, [0])]
noncomputable def A3_0 (Q : Value → AH → Prop) (t0 : Value) (h : AH) : Prop := Pt Pr K 3 none (retV Pr 3 Q) 33 [0] [.code (cc 3 2), .code (cc 3 3)] [] [t0] h
noncomputable def A3_1 (Q : Value → AH → Prop) (t0 : Value) (h : AH) : Prop := Pt Pr K 3 none (retV Pr 3 Q) 33 [0] [.code (cc 3 14), .code (cc 3 15)] [] [t0] h
theorem b3_0 {h : AH} {Q : Value → AH → Prop} {t0 : Value} (H :
 thn (lenS t0) fun v0 =>
 thn (biI .gtr v0 (I 60)) fun v1 =>
 Br v1 (
 Cl Pr K 7 [] h fun v2 h2 => -- donjon/donjonlaw10.awake
 Q v2 h2) (
 A3_1 Q t0 h)
) : A3_0 Q t0 h := by intro e he; cases he; exact bF L3 (by kernel_rfl) H
theorem b3_1 {h : AH} {Q : Value → AH → Prop} {t0 : Value} (H :
 Cl Pr K 8 [t0] h fun v0 h0 => -- donjon/isa.Print
 thn (extV 0 v0) fun v1 =>
 thn (extV 1 v0) fun v2 =>
 Cl Pr K 10 [t0] h0 fun v3 h3 => -- donjon/donjonlaw10.Plain
 Cl Pr K 9 [v3] h3 fun v4 h4 => -- donjon/donjonref10.Print
 thn (extV 0 v4) fun v5 =>
 thn (extV 1 v4) fun v6 =>
 thn (biT .eql v1 v5) fun v7 =>
 Br v7 (
 thn (biI .eql v2 v6) fun v8 =>
 Br v8 (
 Cl Pr K 7 [] h4 fun v9 h9 => -- donjon/donjonlaw10.awake
 Q v9 h9) (
 Q (.bool false) h4)) (
 Q (.bool false) h4)
) : A3_1 Q t0 h := by intro e he; cases he; exact bF L3 (by kernel_rfl) H
theorem c3 {h : AH} {Q : Value → AH → Prop} {a0 : Value} (H : A3_0 Q a0 h) : Cl Pr K 3 [a0] h Q :=
  ok_enter (by kernel_rfl) (by kernel_rfl) (Eq.mp (by kernel_rfl) (H (fun i => ([a0] : List Value).getD i undef) rfl))

/-! ### 4 donjon/donjonlaw10.IsaBack: params 2, captured 0, results [tmp 4] -/
noncomputable def L4 : List (Option Nat × List Nat) := [(some 0, [0, 1]), (some 3, [0, 1]), (some 5, [0, 1, 5]), (some 13, [1]), (some 8, [0, 1, 7]), (some 16, [1, 11, 12]), (some 9, [0, 1, 7, 10]), (some 11, [0, 1, 7, 10]), (some 10, [0, 1, 7, 10])]
noncomputable def A4_0 (Q : Value → AH → Prop) (t0 t1 : Value) (h : AH) : Prop := Pt Pr K 4 none (retV Pr 4 Q) 107 [0, 1] [.code (cc 4 2), .code (cc 4 3)] [] [t0, t1] h
noncomputable def A4_1 (Q : Value → AH → Prop) (t0 t1 : Value) (h : AH) : Prop := Pt Pr K 4 none (retV Pr 4 Q) 107 [0, 1] [.code (cc 4 14), .code (cc 4 15)] [] [t0, t1] h
noncomputable def A4_2 (Q : Value → AH → Prop) (t0 t1 t5 : Value) (h : AH) : Prop := Pt Pr K 4 none (retV Pr 4 Q) 107 [0, 1, 5] [.code (cc 4 244), .code (cc 4 245), .code (cc 4 31)] [] [t0, t1, t5] h
noncomputable def A4_3 (Q : Value → AH → Prop) (t1 : Value) (h : AH) : Prop := Pt Pr K 4 none (retV Pr 4 Q) 107 [1] [.code (cc 4 62), .code (cc 4 63)] [] [t1] h
noncomputable def A4_4 (Q : Value → AH → Prop) (t0 t1 t7 : Value) (h : AH) : Prop := Pt Pr K 4 none (retV Pr 4 Q) 107 [0, 1, 7] [.code (cc 4 982), .code (cc 4 983), .code (cc 4 31)] [] [t0, t1, t7] h
noncomputable def A4_5 (Q : Value → AH → Prop) (t1 t11 t12 : Value) (h : AH) : Prop := Pt Pr K 4 none (retV Pr 4 Q) 107 [1, 11, 12] [.code (cc 4 254), .code (cc 4 255)] [] [t1, t11, t12] h
noncomputable def A4_6 (Q : Value → AH → Prop) (t0 t1 t7 t10 : Value) (h : AH) : Prop := Pt Pr K 4 none (retV Pr 4 Q) 107 [0, 1, 7, 10] [.code (cc 4 15728), .code (cc 4 15729), .code (cc 4 7865), .inLoop (cc 4 3932), .inBlock 0, .code (cc 4 31)] [] [t0, t1, t7, t10] h
noncomputable def A4_7 (Q : Value → AH → Prop) (t0 t1 t7 t10 : Value) (h : AH) : Prop := Pt Pr K 4 none (retV Pr 4 Q) 107 [0, 1, 7, 10] [.code (cc 4 62920), .code (cc 4 62921), .inBlock 1, .code (cc 4 15731), .inLoop (cc 4 3932), .inBlock 0, .code (cc 4 31)] [] [t0, t1, t7, t10] h
noncomputable def A4_8 (Q : Value → AH → Prop) (t0 t1 t7 t10 : Value) (h : AH) : Prop := Pt Pr K 4 none (retV Pr 4 Q) 107 [0, 1, 7, 10] [.code (cc 4 15731), .inLoop (cc 4 3932), .inBlock 0, .code (cc 4 31)] [] [t0, t1, t7, t10] h
theorem b4_0 {h : AH} {Q : Value → AH → Prop} {t0 t1 : Value} (H :
 thn (lenS t0) fun v0 =>
 thn (biI .gtr v0 (I 60)) fun v1 =>
 Br v1 (
 Cl Pr K 7 [] h fun v2 h2 => -- donjon/donjonlaw10.awake
 Q v2 h2) (
 thn (lenT t1) fun v2 =>
 thn (biI .gtr v2 (I 1500)) fun v3 =>
 Br v3 (
 Cl Pr K 7 [] h fun v4 h4 => -- donjon/donjonlaw10.awake
 Q v4 h4) (
 A4_1 Q t0 t1 h))
) : A4_0 Q t0 t1 h := by intro e he; cases he; exact bF L4 (by kernel_rfl) H
theorem b4_1 {h : AH} {Q : Value → AH → Prop} {t0 t1 : Value} (H :
 Cl Pr K 8 [t0] h fun v0 h0 => -- donjon/isa.Print
 thn (extV 0 v0) fun v1 =>
 thn (extV 1 v0) fun v2 =>
 thn (biI .eql v2 (I 0)) fun v3 =>
 Br v3 (
 A4_2 Q t0 t1 v1 h0) (
 A4_3 Q t1 h0)
) : A4_1 Q t0 t1 h := by intro e he; cases he; exact bF L4 (by kernel_rfl) H
theorem b4_2 {h : AH} {Q : Value → AH → Prop} {t0 t1 t5 : Value} (H :
 Cl Pr K 11 [t5] h fun v0 h0 => -- donjon/isa.Parse
 thn (extV 0 v0) fun v1 =>
 thn (extV 1 v0) fun v2 =>
 thn (extV 2 v0) fun v3 =>
 thn (biI .neq v2 (I 0)) fun v4 =>
 Br v4 (
 Q (.bool false) h0) (
 thn (biI .neq v3 (I 0)) fun v5 =>
 Br v5 (
 Q (.bool false) h0) (
 thn (lenS t0) fun v6 =>
 thn (lenS v1) fun v7 =>
 thn (biI .neq v6 v7) fun v8 =>
 Br v8 (
 Q (.bool false) h0) (
 A4_4 Q t0 t1 v1 h0)))
) : A4_2 Q t0 t1 t5 h := by intro e he; cases he; exact bF L4 (by kernel_rfl) H
theorem b4_3 {h : AH} {Q : Value → AH → Prop} {t1 : Value} (H :
 Cl Pr K 11 [t1] h fun v0 h0 => -- donjon/isa.Parse
 thn (extV 0 v0) fun v1 =>
 thn (extV 1 v0) fun v2 =>
 thn (extV 2 v0) fun v3 =>
 thn (biI .neq v3 (I 0)) fun v4 =>
 Br v4 (
 thn (lenS v1) fun v5 =>
 thn (biI .eql v5 (I 0)) fun v6 =>
 Br v6 (
 thn (biI .gtr v2 (I 0)) fun v7 =>
 Br v7 (
 Cl Pr K 7 [] h0 fun v8 h8 => -- donjon/donjonlaw10.awake
 Q v8 h8) (
 thn (biI .eql v3 (I 11)) fun v8 =>
 Br v8 (
 Cl Pr K 7 [] h0 fun v9 h9 => -- donjon/donjonlaw10.awake
 Q v9 h9) (
 Q (.bool false) h0))) (
 Q (.bool false) h0)) (
 A4_5 Q t1 v1 v2 h0)
) : A4_3 Q t1 h := by intro e he; cases he; exact bF L4 (by kernel_rfl) H
theorem b4_4 {h : AH} {Q : Value → AH → Prop} {t0 t1 t7 : Value} (H :
 A4_6 Q t0 t1 t7 (I 0) h
) : A4_4 Q t0 t1 t7 h := by intro e he; cases he; exact bF L4 (by kernel_rfl) H
theorem b4_5 {h : AH} {Q : Value → AH → Prop} {t1 t11 t12 : Value} (H :
 Cl Pr K 8 [t11] h fun v0 h0 => -- donjon/isa.Print
 thn (extV 0 v0) fun v1 =>
 thn (extV 1 v0) fun v2 =>
 thn (biI .eql t12 (I 0)) fun v3 =>
 Br v3 (
 thn (biI .eql v2 (I 0)) fun v4 =>
 Br v4 (
 thn (biT .eql v1 t1) fun v5 =>
 Br v5 (
 Cl Pr K 7 [] h0 fun v6 h6 => -- donjon/donjonlaw10.awake
 Q v6 h6) (
 Q (.bool false) h0)) (
 Q (.bool false) h0)) (
 Q (.bool false) h0)
) : A4_5 Q t1 t11 t12 h := by intro e he; cases he; exact bF L4 (by kernel_rfl) H
theorem b4_6 {h : AH} {Q : Value → AH → Prop} {t0 t1 t7 t10 : Value} (H :
 thn (lenS t0) fun v0 =>
 thn (biI .lss t10 v0) fun v1 =>
 Br v1 (
 A4_7 Q t0 t1 t7 t10 h) (
 A4_3 Q t1 h)
) : A4_6 Q t0 t1 t7 t10 h := by intro e he; cases he; exact bF L4 (by kernel_rfl) H
theorem b4_7 {h : AH} {Q : Value → AH → Prop} {t0 t1 t7 t10 : Value} (H :
 resv h 9 fun r1 h0 =>
 thn (idxS 4 t0 t10) fun v2 =>
 thn (ldN h0 4 v2) fun v3 =>
 thn (idxS 4 t7 t10) fun v4 =>
 thn (ldN h0 4 v4) fun v5 =>
 thn (biA [0, 0, 0, 0] .neq v3 v5) fun v6 =>
 Br v6 (
 Q (.bool false) h0) (
 A4_8 Q t0 t1 t7 t10 h0)
) : A4_7 Q t0 t1 t7 t10 h := by intro e he; cases he; exact bF L4 (by kernel_rfl) H
theorem b4_8 {h : AH} {Q : Value → AH → Prop} {t0 t1 t7 t10 : Value} (H :
 thn (biI .add t10 (I 1)) fun v0 =>
 A4_6 Q t0 t1 t7 v0 h
) : A4_8 Q t0 t1 t7 t10 h := by intro e he; cases he; exact bF L4 (by kernel_rfl) H
theorem c4 {h : AH} {Q : Value → AH → Prop} {a0 a1 : Value} (H : A4_0 Q a0 a1 h) : Cl Pr K 4 [a0, a1] h Q :=
  ok_enter (by kernel_rfl) (by kernel_rfl) (Eq.mp (by kernel_rfl) (H (fun i => ([a0, a1] : List Value).getD i undef) rfl))

/-! ### 5 donjon/donjonlaw10.IsaWorse: params 3, captured 0, results [tmp 6] -/
noncomputable def L5 : List (Option Nat × List Nat) := [(some 0, [0, 1, 2]), (some 3, [1, 2, 3]), (some 8, [1, 3])]
noncomputable def A5_0 (Q : Value → AH → Prop) (t0 t1 t2 : Value) (h : AH) : Prop := Pt Pr K 5 none (retV Pr 5 Q) 70 [0, 1, 2] [.code (cc 5 2), .code (cc 5 3)] [] [t0, t1, t2] h
noncomputable def A5_1 (Q : Value → AH → Prop) (t1 t2 t3 : Value) (h : AH) : Prop := Pt Pr K 5 none (retV Pr 5 Q) 70 [1, 2, 3] [.code (cc 5 14), .code (cc 5 15)] [] [t1, t2, t3] h
noncomputable def A5_2 (Q : Value → AH → Prop) (t1 t3 : Value) (h : AH) : Prop := Pt Pr K 5 none (retV Pr 5 Q) 70 [1, 3] [.code (cc 5 254), .code (cc 5 255)] [] [t1, t3] h
theorem b5_0 {h : AH} {Q : Value → AH → Prop} {t0 t1 t2 : Value} (H :
 thn (blkOf 34 t0) fun b1 =>
 alc h b1 fun p2 h0 =>
 thn (ldN h0 4 (pt p2 0 0)) fun v3 =>
 Cl Pr K 12 [v3, t1] h0 fun v4 h4 => -- donjon/isa.May
 thn (biI .neq v4 (I 0)) fun v5 =>
 Br v5 (
 Cl Pr K 7 [] h4 fun v6 h6 => -- donjon/donjonlaw10.awake
 Q v6 h6) (
 thn (biI .lss t1 (I 0)) fun v6 =>
 Br v6 (
 Cl Pr K 7 [] h4 fun v7 h7 => -- donjon/donjonlaw10.awake
 Q v7 h7) (
 thn (biI .lss t2 (I 1)) fun v7 =>
 Br v7 (
 Cl Pr K 7 [] h4 fun v8 h8 => -- donjon/donjonlaw10.awake
 Q v8 h8) (
 thn (biI .gtr t2 (I 1000)) fun v8 =>
 Br v8 (
 Cl Pr K 7 [] h4 fun v9 h9 => -- donjon/donjonlaw10.awake
 Q v9 h9) (
 thn (biI .gtr t1 (I 1000)) fun v9 =>
 Br v9 (
 Cl Pr K 7 [] h4 fun v10 h10 => -- donjon/donjonlaw10.awake
 Q v10 h10) (
 A5_1 Q t1 t2 (pt p2 0 0) h4)))))
) : A5_0 Q t0 t1 t2 h := by intro e he; cases he; exact bF L5 (by kernel_rfl) H
theorem b5_1 {h : AH} {Q : Value → AH → Prop} {t1 t2 t3 : Value} (H :
 thn (ldN h 4 t3) fun v0 =>
 alc h (.cells [(I 0), (I 0), (I 0), (I 0)] 34 (0, 0) true) fun p2 h1 =>
 thn (stV h1 4 (pt p2 0 0) v0) fun h3 =>
 thn (padd 3 (pt p2 0 0)) fun v4 =>
 thn (stV h3 1 v4 t2) fun h5 =>
 thn (padd 0 t3) fun v6 =>
 thn (ld1 h5 v6) fun v7 =>
 thn (biI .eql v7 (I 2)) fun v8 =>
 Br v8 (
 thn (ldN h5 4 t3) fun v9 =>
 thn (biI .add t1 t2) fun v10 =>
 Cl Pr K 12 [v9, v10] h5 fun v11 h11 => -- donjon/isa.May
 thn (biI .neq v11 (I 0)) fun v12 =>
 Br v12 (
 Q (.bool false) h11) (
 thn (unV .not (.bool true)) fun v13 =>
 Br v13 (
 thn (ldN h11 4 (pt p2 0 0)) fun v14 =>
 Cl Pr K 12 [v14, t1] h11 fun v15 h15 => -- donjon/isa.May
 thn (biI .neq v15 (I 10)) fun v16 =>
 Br v16 (
 Q (.bool false) h15) (
 A5_2 Q t1 t3 h15)) (
 thn (ldN h11 4 t3) fun v14 =>
 alc h11 (.cells [(I 0), (I 0), (I 0), (I 0)] 34 (0, 0) true) fun p16 h15 =>
 thn (stV h15 4 (pt p16 0 0) v14) fun h17 =>
 thn (padd 0 t3) fun v18 =>
 thn (ld1 h17 v18) fun v19 =>
 thn (biI .add v19 (I 100)) fun v20 =>
 thn (padd 0 (pt p16 0 0)) fun v21 =>
 thn (stV h17 1 v21 v20) fun h22 =>
 thn (ldN h22 4 (pt p16 0 0)) fun v23 =>
 Cl Pr K 12 [v23, t1] h22 fun v24 h24 => -- donjon/isa.May
 thn (biI .eql v24 (I 15)) fun v25 =>
 Br v25 (
 Cl Pr K 7 [] h24 fun v26 h26 => -- donjon/donjonlaw10.awake
 Q v26 h26) (
 Q (.bool false) h24)))) (
 thn (padd 0 t3) fun v9 =>
 thn (ld1 h5 v9) fun v10 =>
 thn (biI .eql v10 (I 8)) fun v11 =>
 thn (ldN h5 4 t3) fun v12 =>
 thn (biI .add t1 t2) fun v13 =>
 Cl Pr K 12 [v12, v13] h5 fun v14 h14 => -- donjon/isa.May
 thn (biI .neq v14 (I 0)) fun v15 =>
 Br v15 (
 Q (.bool false) h14) (
 thn (unV .not v11) fun v16 =>
 Br v16 (
 thn (ldN h14 4 (pt p2 0 0)) fun v17 =>
 Cl Pr K 12 [v17, t1] h14 fun v18 h18 => -- donjon/isa.May
 thn (biI .neq v18 (I 10)) fun v19 =>
 Br v19 (
 Q (.bool false) h18) (
 A5_2 Q t1 t3 h18)) (
 thn (ldN h14 4 t3) fun v17 =>
 alc h14 (.cells [(I 0), (I 0), (I 0), (I 0)] 34 (0, 0) true) fun p19 h18 =>
 thn (stV h18 4 (pt p19 0 0) v17) fun h20 =>
 thn (padd 0 t3) fun v21 =>
 thn (ld1 h20 v21) fun v22 =>
 thn (biI .add v22 (I 100)) fun v23 =>
 thn (padd 0 (pt p19 0 0)) fun v24 =>
 thn (stV h20 1 v24 v23) fun h25 =>
 thn (ldN h25 4 (pt p19 0 0)) fun v26 =>
 Cl Pr K 12 [v26, t1] h25 fun v27 h27 => -- donjon/isa.May
 thn (biI .eql v27 (I 15)) fun v28 =>
 Br v28 (
 Cl Pr K 7 [] h27 fun v29 h29 => -- donjon/donjonlaw10.awake
 Q v29 h29) (
 Q (.bool false) h27))))
) : A5_1 Q t1 t2 t3 h := by intro e he; cases he; exact bF L5 (by kernel_rfl) H
theorem b5_2 {h : AH} {Q : Value → AH → Prop} {t1 t3 : Value} (H :
 thn (ldN h 4 t3) fun v0 =>
 alc h (.cells [(I 0), (I 0), (I 0), (I 0)] 34 (0, 0) true) fun p2 h1 =>
 thn (stV h1 4 (pt p2 0 0) v0) fun h3 =>
 thn (padd 0 t3) fun v4 =>
 thn (ld1 h3 v4) fun v5 =>
 thn (biI .add v5 (I 100)) fun v6 =>
 thn (padd 0 (pt p2 0 0)) fun v7 =>
 thn (stV h3 1 v7 v6) fun h8 =>
 thn (ldN h8 4 (pt p2 0 0)) fun v9 =>
 Cl Pr K 12 [v9, t1] h8 fun v10 h10 => -- donjon/isa.May
 thn (biI .eql v10 (I 15)) fun v11 =>
 Br v11 (
 Cl Pr K 7 [] h10 fun v12 h12 => -- donjon/donjonlaw10.awake
 Q v12 h12) (
 Q (.bool false) h10)
) : A5_2 Q t1 t3 h := by intro e he; cases he; exact bF L5 (by kernel_rfl) H
theorem c5 {h : AH} {Q : Value → AH → Prop} {a0 a1 a2 : Value} (H : A5_0 Q a0 a1 a2 h) : Cl Pr K 5 [a0, a1, a2] h Q :=
  ok_enter (by kernel_rfl) (by kernel_rfl) (Eq.mp (by kernel_rfl) (H (fun i => ([a0, a1, a2] : List Value).getD i undef) rfl))

/-! ### 6 donjon/donjonlaw10.IsaParts: params 2, captured 0, results [tmp 4] -/
noncomputable def L6 : List (Option Nat × List Nat) := [(some 0, [0, 1]), (some 3, [0, 1]), (some 4, [0, 1, 5]), (some 6, [0, 1, 5]), (some 8, [0, 1]), (some 5, [0, 1, 5])]
noncomputable def A6_0 (Q : Value → AH → Prop) (t0 t1 : Value) (h : AH) : Prop := Pt Pr K 6 none (retV Pr 6 Q) 87 [0, 1] [.code (cc 6 2), .code (cc 6 3)] [] [t0, t1] h
noncomputable def A6_1 (Q : Value → AH → Prop) (t0 t1 : Value) (h : AH) : Prop := Pt Pr K 6 none (retV Pr 6 Q) 87 [0, 1] [.code (cc 6 28), .code (cc 6 29), .code (cc 6 15)] [] [t0, t1] h
noncomputable def A6_2 (Q : Value → AH → Prop) (t0 t1 t5 : Value) (h : AH) : Prop := Pt Pr K 6 none (retV Pr 6 Q) 87 [0, 1, 5] [.code (cc 6 464), .code (cc 6 465), .code (cc 6 233), .inLoop (cc 6 116), .inBlock 0, .code (cc 6 15)] [] [t0, t1, t5] h
noncomputable def A6_3 (Q : Value → AH → Prop) (t0 t1 t5 : Value) (h : AH) : Prop := Pt Pr K 6 none (retV Pr 6 Q) 87 [0, 1, 5] [.code (cc 6 1864), .code (cc 6 1865), .inBlock 1, .code (cc 6 467), .inLoop (cc 6 116), .inBlock 0, .code (cc 6 15)] [] [t0, t1, t5] h
noncomputable def A6_4 (Q : Value → AH → Prop) (t0 t1 : Value) (h : AH) : Prop := Pt Pr K 6 none (retV Pr 6 Q) 87 [0, 1] [.code (cc 6 30), .code (cc 6 31)] [] [t0, t1] h
noncomputable def A6_5 (Q : Value → AH → Prop) (t0 t1 t5 : Value) (h : AH) : Prop := Pt Pr K 6 none (retV Pr 6 Q) 87 [0, 1, 5] [.code (cc 6 467), .inLoop (cc 6 116), .inBlock 0, .code (cc 6 15)] [] [t0, t1, t5] h
theorem b6_0 {h : AH} {Q : Value → AH → Prop} {t0 t1 : Value} (H :
 thn (lenS t0) fun v0 =>
 thn (biI .gtr v0 (I 32)) fun v1 =>
 Br v1 (
 Cl Pr K 7 [] h fun v2 h2 => -- donjon/donjonlaw10.awake
 Q v2 h2) (
 thn (biI .lss t1 (I 0)) fun v2 =>
 Br v2 (
 Cl Pr K 7 [] h fun v3 h3 => -- donjon/donjonlaw10.awake
 Q v3 h3) (
 thn (lenS t0) fun v3 =>
 thn (biI .gtr t1 v3) fun v4 =>
 Br v4 (
 Cl Pr K 7 [] h fun v5 h5 => -- donjon/donjonlaw10.awake
 Q v5 h5) (
 A6_1 Q t0 t1 h)))
) : A6_0 Q t0 t1 h := by intro e he; cases he; exact bF L6 (by kernel_rfl) H
theorem b6_1 {h : AH} {Q : Value → AH → Prop} {t0 t1 : Value} (H :
 A6_2 Q t0 t1 (I 0) h
) : A6_1 Q t0 t1 h := by intro e he; cases he; exact bF L6 (by kernel_rfl) H
theorem b6_2 {h : AH} {Q : Value → AH → Prop} {t0 t1 t5 : Value} (H :
 thn (lenS t0) fun v0 =>
 thn (biI .lss t5 v0) fun v1 =>
 Br v1 (
 A6_3 Q t0 t1 t5 h) (
 A6_4 Q t0 t1 h)
) : A6_2 Q t0 t1 t5 h := by intro e he; cases he; exact bF L6 (by kernel_rfl) H
theorem b6_3 {h : AH} {Q : Value → AH → Prop} {t0 t1 t5 : Value} (H :
 thn (idxS 4 t0 t5) fun v0 =>
 thn (padd 0 v0) fun v1 =>
 thn (ld1 h v1) fun v2 =>
 thn (biI .eql v2 (I 9)) fun v3 =>
 Br v3 (
 Cl Pr K 7 [] h fun v4 h4 => -- donjon/donjonlaw10.awake
 Q v4 h4) (
 thn (idxS 4 t0 t5) fun v4 =>
 thn (padd 0 v4) fun v5 =>
 thn (ld1 h v5) fun v6 =>
 thn (biI .eql v6 (I 10)) fun v7 =>
 Br v7 (
 Cl Pr K 7 [] h fun v8 h8 => -- donjon/donjonlaw10.awake
 Q v8 h8) (
 A6_5 Q t0 t1 t5 h))
) : A6_3 Q t0 t1 t5 h := by intro e he; cases he; exact bF L6 (by kernel_rfl) H
theorem b6_4 {h : AH} {Q : Value → AH → Prop} {t0 t1 : Value} (H :
 Cl Pr K 8 [t0] h fun v0 h0 => -- donjon/isa.Print
 thn (extV 0 v0) fun v1 =>
 thn (extV 1 v0) fun v2 =>
 thn (slS 4 h0 t0 none (some t1) none) fun v3 =>
 Cl Pr K 8 [v3] h0 fun v4 h4 => -- donjon/isa.Print
 thn (extV 0 v4) fun v5 =>
 thn (extV 1 v4) fun v6 =>
 thn (slS 4 h4 t0 (some t1) none none) fun v7 =>
 Cl Pr K 8 [v7] h4 fun v8 h8 => -- donjon/isa.Print
 thn (extV 0 v8) fun v9 =>
 thn (extV 1 v8) fun v10 =>
 thn (biI .eql v2 (I 0)) fun v11 =>
 thn (biI .eql v6 (I 0)) fun v12 =>
 Br v12 (
 thn (biI .eql v10 (I 0)) fun v13 =>
 thn (biB .neq v11 v13) fun v14 =>
 Br v14 (
 Q (.bool false) h8) (
 thn (biI .neq v2 (I 0)) fun v15 =>
 Br v15 (
 Cl Pr K 7 [] h8 fun v16 h16 => -- donjon/donjonlaw10.awake
 Q v16 h16) (
 thn (biT .add v5 v9) fun v16 =>
 thn (biT .eql v1 v16) fun v17 =>
 Br v17 (
 Cl Pr K 7 [] h8 fun v18 h18 => -- donjon/donjonlaw10.awake
 Q v18 h18) (
 Q (.bool false) h8)))) (
 thn (biB .neq v11 (.bool false)) fun v13 =>
 Br v13 (
 Q (.bool false) h8) (
 thn (biI .neq v2 (I 0)) fun v14 =>
 Br v14 (
 Cl Pr K 7 [] h8 fun v15 h15 => -- donjon/donjonlaw10.awake
 Q v15 h15) (
 thn (biT .add v5 v9) fun v15 =>
 thn (biT .eql v1 v15) fun v16 =>
 Br v16 (
 Cl Pr K 7 [] h8 fun v17 h17 => -- donjon/donjonlaw10.awake
 Q v17 h17) (
 Q (.bool false) h8))))
) : A6_4 Q t0 t1 h := by intro e he; cases he; exact bF L6 (by kernel_rfl) H
theorem b6_5 {h : AH} {Q : Value → AH → Prop} {t0 t1 t5 : Value} (H :
 thn (biI .add t5 (I 1)) fun v0 =>
 A6_2 Q t0 t1 v0 h
) : A6_5 Q t0 t1 t5 h := by intro e he; cases he; exact bF L6 (by kernel_rfl) H
theorem c6 {h : AH} {Q : Value → AH → Prop} {a0 a1 : Value} (H : A6_0 Q a0 a1 h) : Cl Pr K 6 [a0, a1] h Q :=
  ok_enter (by kernel_rfl) (by kernel_rfl) (Eq.mp (by kernel_rfl) (H (fun i => ([a0, a1] : List Value).getD i undef) rfl))

/-! ### 8 donjon/isa.Print: params 1, captured 0, results [tmp 2, tmp 3] -/
noncomputable def L8 : List (Option Nat × List Nat) := [(some 0, [0, 34, 35]), (some 4, [0, 2, 3, 34, 35]), (some 6, [2, 3, 6, 19, 20, 21, 34, 35]), (some 7, [2, 3, 6, 19, 20, 21, 34, 35]), (some 10, [6, 34, 35])]
noncomputable def A8_0 (ds : List Nat) (Q : Value → AH → Prop) (t0 t34 t35 : Value) (h : AH) : Prop := Pt Pr K 8 none (retV Pr 8 Q) 47 [0, 34, 35] [.code (cc 8 2), .code (cc 8 3)] ds [t0, t34, t35] h
noncomputable def A8_1 (ds : List Nat) (Q : Value → AH → Prop) (t0 t2 t3 t34 t35 : Value) (h : AH) : Prop := Pt Pr K 8 none (retV Pr 8 Q) 47 [0, 2, 3, 34, 35] [.code (cc 8 14), .code (cc 8 15)] ds [t0, t2, t3, t34, t35] h
noncomputable def A8_2 (ds : List Nat) (Q : Value → AH → Prop) (t2 t3 t6 t19 t20 t21 t34 t35 : Value) (h : AH) : Prop := Pt Pr K 8 none (retV Pr 8 Q) 47 [2, 3, 6, 19, 20, 21, 34, 35] [.code (cc 8 488), .code (cc 8 489), .inLoop (cc 8 244), .inBlock 0, .code (cc 8 31)] ds [t2, t3, t6, t19, t20, t21, t34, t35] h
noncomputable def A8_3 (ds : List Nat) (Q : Value → AH → Prop) (t2 t3 t6 t19 t20 t21 t34 t35 : Value) (h : AH) : Prop := Pt Pr K 8 none (retV Pr 8 Q) 47 [2, 3, 6, 19, 20, 21, 34, 35] [.code (cc 8 7832), .code (cc 8 7833), .inBlock 1, .code (cc 8 1959), .inLoop (cc 8 244), .inBlock 0, .code (cc 8 31)] ds [t2, t3, t6, t19, t20, t21, t34, t35] h
noncomputable def A8_4 (l : Nat) (Q : Value → AH → Prop) (t6 t34 t35 : Value) (h : AH) : Prop := Pt Pr K 8 (some l) (roundOut l Q) 47 [6, 34, 35] [.code (cc 8 2005352), .code (cc 8 2005353), .beginRound, .code (cc 8 1002677)] [] [t6, t34, t35] h
theorem b8_0 {h : AH} {Q : Value → AH → Prop} {ds : List Nat} {t0 t34 t35 : Value} (H :
 Cl Pr K 14 [t0] h fun v0 h0 => -- donjon/isa.Check
 thn (extV 0 v0) fun v1 =>
 thn (extV 1 v0) fun v2 =>
 thn (biI .neq v2 (I 0)) fun v3 =>
 Br v3 (
 thn (closeMarks ds h0) fun h4 =>
 Q (.tuple ⟨[(.string ⟨#[]⟩), v2]⟩) h4) (
 A8_1 ds Q t0 (.string ⟨#[]⟩) (I 0) t34 t35 h0)
) : A8_0 ds Q t0 t34 t35 h := by intro e he; cases he; exact bD L8 (by kernel_rfl) H
theorem b8_1 {h : AH} {Q : Value → AH → Prop} {ds : List Nat} {t0 t2 t3 t34 t35 : Value} (H :
 alc h (.cells [(.string ⟨#[]⟩)] 9 (0, 0) true) fun p1 h0 =>
 thn (stV h0 1 (pt p1 0 0) (.string ⟨#[]⟩)) fun h2 =>
 thn (lenS t0) fun v3 =>
 A8_2 ds Q t2 t3 (pt p1 0 0) t0 v3 (I 0) t34 t35 h2
) : A8_1 ds Q t0 t2 t3 t34 t35 h := by intro e he; cases he; exact bD L8 (by kernel_rfl) H
theorem b8_2 {h : AH} {Q : Value → AH → Prop} {ds : List Nat} {t2 t3 t6 t19 t20 t21 t34 t35 : Value} (H :
 thn (biI .lss t21 t20) fun v0 =>
 Br v0 (
 A8_3 ds Q t2 t3 t6 t19 t20 t21 t34 t35 h) (
 thn (ld1 h t6) fun v1 =>
 thn (closeMarks ds h) fun h2 =>
 Q (.tuple ⟨[v1, (I 0)]⟩) h2)
) : A8_2 ds Q t2 t3 t6 t19 t20 t21 t34 t35 h := by intro e he; cases he; exact bD L8 (by kernel_rfl) H
theorem b8_3 {h : AH} {Q : Value → AH → Prop} {ds : List Nat} {t2 t3 t6 t19 t20 t21 t34 t35 : Value} (H :
 thn (idxS 4 t19 t21) fun v0 =>
 thn (ldN h 4 v0) fun v1 =>
 alc h (.cells [(I 0), (I 0), (I 0), (I 0)] 34 (0, 0) true) fun p3 h2 =>
 thn (stV h2 4 (pt p3 0 0) v1) fun h4 =>
 resv h4 8 fun r6 h5 =>
 thn (ld1 h5 t6) fun v7 =>
 thn (padd 0 (pt p3 0 0)) fun v8 =>
 thn (ld1 h5 v8) fun v9 =>
 thn (idxA 12 4 (.pointer (some ⟨0, 0, none⟩)) v9) fun v10 =>
 thn (padd 0 v10) fun v11 =>
 thn (ld1 h5 v11) fun v12 =>
 thn (biT .add v7 v12) fun v13 =>
 thn (stV h5 1 t6 v13) fun h14 =>
 thn (ldN h14 4 (pt p3 0 0)) fun v15 =>
 Cl Pr K 15 [v15] h14 fun v16 h16 => -- donjon/isa.numbers
 alc h16 (.marks true) fun d18 h17 =>
 ∀ e24 : Nat → Value, List.map e24 [6, 34, 35] = [t6, t34, t35] →
 alc h17 (lp Pr 8 (dcd 501338) 47 e24 d18 .ready none) fun l19 h20 =>
 OkR Pr K v16 l19 h20 fun v21 h22 =>
 thn (endV h22 l19) fun r23 => (fun x26 h27 =>
 EndX x26 (
 thn (ld1 h27 t6) fun v28 =>
 thn (biT .add v28 (.string ⟨#[10]⟩)) fun v29 =>
 thn (stV h27 1 t6 v29) fun h30 =>
 thn (biI .add t21 (I 1)) fun v31 =>
 A8_2 (d18 :: ds) Q t2 t3 t6 t19 t20 v31 t34 t35 h30) (
 thn (closeMarks (d18 :: ds) h27) fun h28 =>
 Q (.tuple ⟨[t2, t3]⟩) h28) [(2, thn (ld1 h27 t6) fun v28 =>
 thn (biT .add v28 (.string ⟨#[10]⟩)) fun v29 =>
 thn (stV h27 1 t6 v29) fun h30 =>
 thn (biI .add t21 (I 1)) fun v31 =>
 A8_2 (d18 :: ds) Q t2 t3 t6 t19 t20 v31 t34 t35 h30)]) r23.1 r23.2
) : A8_3 ds Q t2 t3 t6 t19 t20 t21 t34 t35 h := by intro e he; cases he; exact bD L8 (by kernel_rfl) H
theorem b8_4 {h : AH} {Q : Value → AH → Prop} {l : Nat} {t6 t34 t35 : Value} (H :
 thn (beginV h l) fun h0 =>
 thn (biI .eql t34 (I 0)) fun v1 =>
 Br v1 (
 thn (setLoop h0 l .done (some (some (.exit 2)))) fun h2 =>
 Q (.bool false) h2) (
 resv h0 6 fun r3 h2 =>
 thn (ld1 h2 t6) fun v4 =>
 Cl Pr K 16 [t35] h2 fun v5 h5 => -- strconv.Itoa
 thn (biT .add (.string ⟨#[32]⟩) v5) fun v6 =>
 thn (biT .add v4 v6) fun v7 =>
 thn (stV h5 1 t6 v7) fun h8 =>
(thn (ld1 h5 t6) fun v9 =>
 veq v9 v4 = true) ∧ (
 thn (setLoop h8 l .ready (some none)) fun h10 =>
 Q (.bool true) h10))
) : A8_4 l Q t6 t34 t35 h := by intro e he; cases he; exact bR L8 (by kernel_rfl) H
theorem c8 {h : AH} {Q : Value → AH → Prop} {a0 : Value} (H : A8_0 [] Q a0 undef undef h) : Cl Pr K 8 [a0] h Q :=
  ok_enter (by kernel_rfl) (by kernel_rfl) (Eq.mp (by kernel_rfl) (H (fun i => ([a0] : List Value).getD i undef) rfl))
theorem r8_0 {h : AH} {Q : Value → AH → Prop} {l d : Nat} {e : Nat → Value} {st : LoopState} {pd : Option Code} {t6 t34 t35 : Value} {a0 a1 : Value} (hg : h.get l = some (lp Pr 8 (dcd 501338) 47 e d st pd)) (he : List.map e [6, 34, 35] = [t6, t34, t35]) (H : A8_4 l Q t6 a0 a1 h) : OkF Pr K (.func (.yield l) #[] #[]) [a0, a1] h Q := by
  cases he; refine okF_round ?_; exact enter_lp (lv := [6, 34, 35]) (vs := [e 6, a0, a1]) hg (by kernel_rfl) (by kernel_rfl) (Eq.mp (by kernel_rfl) H)

/-! ### 9 donjon/donjonref10.Print: params 1, captured 0, results [tmp 2, tmp 3] -/
noncomputable def L9 : List (Option Nat × List Nat) := [(some 0, [0]), (some 4, [0]), (some 6, [0, 6, 7]), (some 8, [0, 6, 7])]
noncomputable def A9_0 (Q : Value → AH → Prop) (t0 : Value) (h : AH) : Prop := Pt Pr K 9 none (retV Pr 9 Q) 31 [0] [.code (cc 9 2), .code (cc 9 3)] [] [t0] h
noncomputable def A9_1 (Q : Value → AH → Prop) (t0 : Value) (h : AH) : Prop := Pt Pr K 9 none (retV Pr 9 Q) 31 [0] [.code (cc 9 30), .code (cc 9 31)] [] [t0] h
noncomputable def A9_2 (Q : Value → AH → Prop) (t0 t6 t7 : Value) (h : AH) : Prop := Pt Pr K 9 none (retV Pr 9 Q) 31 [0, 6, 7] [.code (cc 9 2000), .code (cc 9 2001), .code (cc 9 1001), .inLoop (cc 9 500), .inBlock 0, .code (cc 9 63)] [] [t0, t6, t7] h
noncomputable def A9_3 (Q : Value → AH → Prop) (t0 t6 t7 : Value) (h : AH) : Prop := Pt Pr K 9 none (retV Pr 9 Q) 31 [0, 6, 7] [.code (cc 9 4004), .inBlock 1, .code (cc 9 2003), .inLoop (cc 9 500), .inBlock 0, .code (cc 9 63)] [] [t0, t6, t7] h
theorem b9_0 {h : AH} {Q : Value → AH → Prop} {t0 : Value} (H :
 Cl Pr K 17 [t0] h fun v0 h0 => -- donjon/donjonref10.Check
 thn (extV 0 v0) fun v1 =>
 thn (extV 1 v0) fun v2 =>
 thn (biI .neq v2 (I 0)) fun v3 =>
 Br v3 (
 Q (.tuple ⟨[(.string ⟨#[]⟩), v2]⟩) h0) (
 A9_1 Q t0 h0)
) : A9_0 Q t0 h := by intro e he; cases he; exact bF L9 (by kernel_rfl) H
theorem b9_1 {h : AH} {Q : Value → AH → Prop} {t0 : Value} (H :
 A9_2 Q t0 (.string ⟨#[]⟩) (I 0) h
) : A9_1 Q t0 h := by intro e he; cases he; exact bF L9 (by kernel_rfl) H
theorem b9_2 {h : AH} {Q : Value → AH → Prop} {t0 t6 t7 : Value} (H :
 thn (lenS t0) fun v0 =>
 thn (biI .lss t7 v0) fun v1 =>
 Br v1 (
 A9_3 Q t0 t6 t7 h) (
 Q (.tuple ⟨[t6, (I 0)]⟩) h)
) : A9_2 Q t0 t6 t7 h := by intro e he; cases he; exact bF L9 (by kernel_rfl) H
theorem b9_3 {h : AH} {Q : Value → AH → Prop} {t0 t6 t7 : Value} (H :
 thn (idxS 4 t0 t7) fun v0 =>
 thn (ldN h 4 v0) fun v1 =>
 Cl Pr K 18 [v1] h fun v2 h2 => -- donjon/donjonref10.Line
 thn (biT .add t6 v2) fun v3 =>
 thn (biT .add v3 (.string ⟨#[10]⟩)) fun v4 =>
 thn (biI .add t7 (I 1)) fun v5 =>
 A9_2 Q t0 v4 v5 h2
) : A9_3 Q t0 t6 t7 h := by intro e he; cases he; exact bF L9 (by kernel_rfl) H
theorem c9 {h : AH} {Q : Value → AH → Prop} {a0 : Value} (H : A9_0 Q a0 h) : Cl Pr K 9 [a0] h Q :=
  ok_enter (by kernel_rfl) (by kernel_rfl) (Eq.mp (by kernel_rfl) (H (fun i => ([a0] : List Value).getD i undef) rfl))

/-! ### 10 donjon/donjonlaw10.Plain: params 1, captured 0, results [tmp 2] -/
noncomputable def L10 : List (Option Nat × List Nat) := [(some 0, [0]), (some 3, [0, 3, 4]), (some 5, [0, 3, 4])]
noncomputable def A10_0 (Q : Value → AH → Prop) (t0 : Value) (h : AH) : Prop := Pt Pr K 10 none (retV Pr 10 Q) 37 [0] [.code (cc 10 2), .code (cc 10 3)] [] [t0] h
noncomputable def A10_1 (Q : Value → AH → Prop) (t0 t3 t4 : Value) (h : AH) : Prop := Pt Pr K 10 none (retV Pr 10 Q) 37 [0, 3, 4] [.code (cc 10 464), .code (cc 10 465), .code (cc 10 233), .inLoop (cc 10 116), .inBlock 0, .code (cc 10 15)] [] [t0, t3, t4] h
noncomputable def A10_2 (Q : Value → AH → Prop) (t0 t3 t4 : Value) (h : AH) : Prop := Pt Pr K 10 none (retV Pr 10 Q) 37 [0, 3, 4] [.code (cc 10 932), .inBlock 1, .code (cc 10 467), .inLoop (cc 10 116), .inBlock 0, .code (cc 10 15)] [] [t0, t3, t4] h
theorem b10_0 {h : AH} {Q : Value → AH → Prop} {t0 : Value} (H :
 A10_1 Q t0 (.slice none 0 0) (I 0) h
) : A10_0 Q t0 h := by intro e he; cases he; exact bF L10 (by kernel_rfl) H
theorem b10_1 {h : AH} {Q : Value → AH → Prop} {t0 t3 t4 : Value} (H :
 thn (lenS t0) fun v0 =>
 thn (biI .lss t4 v0) fun v1 =>
 Br v1 (
 A10_2 Q t0 t3 t4 h) (
 Q t3 h)
) : A10_1 Q t0 t3 t4 h := by intro e he; cases he; exact bF L10 (by kernel_rfl) H
theorem b10_2 {h : AH} {Q : Value → AH → Prop} {t0 t3 t4 : Value} (H :
 resv h 26 fun r1 h0 =>
 thn (idxS 4 t0 t4) fun v2 =>
 thn (padd 0 v2) fun v3 =>
 thn (ld1 h0 v3) fun v4 =>
 thn (idxS 4 t0 t4) fun v5 =>
 thn (padd 1 v5) fun v6 =>
 thn (ld1 h0 v6) fun v7 =>
 thn (idxS 4 t0 t4) fun v8 =>
 thn (padd 2 v8) fun v9 =>
 thn (ld1 h0 v9) fun v10 =>
 thn (idxS 4 t0 t4) fun v11 =>
 thn (padd 3 v11) fun v12 =>
 thn (ld1 h0 v12) fun v13 =>
 thn (fillL [(I 0), (I 0), (I 0)] [(0, 1, v7), (1, 1, v10), (2, 1, v13)]) fun c14 =>
 thn (fillL [(I 0), (I 0), (I 0), (I 0)] [(0, 1, v4), (1, 3, (.agg ⟨c14⟩))]) fun c15 =>
 thn (fillL [(I 0), (I 0), (I 0), (I 0)] [(0, 4, (.agg ⟨c15⟩))]) fun l17 =>
 alcSAt h0 (r1 + 23) 4 53 l17 1 1 fun s18 h16 =>
 thn (appV 4 32 53 h16 t3 s18) fun r19 => (fun v20 h21 =>
 thn (biI .add t4 (I 1)) fun v22 =>
 A10_1 Q t0 v20 v22 h21) r19.1 r19.2
) : A10_2 Q t0 t3 t4 h := by intro e he; cases he; exact bF L10 (by kernel_rfl) H
theorem c10 {h : AH} {Q : Value → AH → Prop} {a0 : Value} (H : A10_0 Q a0 h) : Cl Pr K 10 [a0] h Q :=
  ok_enter (by kernel_rfl) (by kernel_rfl) (Eq.mp (by kernel_rfl) (H (fun i => ([a0] : List Value).getD i undef) rfl))

/-! ### 11 donjon/isa.Parse: params 1, captured 0, results [tmp 2, tmp 3, tmp 4] -/
noncomputable def L11 : List (Option Nat × List Nat) := [(some 0, [0]), (some 4, [0, 5]), (some 6, [0, 5, 6, 7]), (some 8, [0, 5, 6, 7]), (some 12, [5, 6, 7, 9, 11]), (some 15, [5, 6, 7, 9, 11])]
noncomputable def A11_0 (Q : Value → AH → Prop) (t0 : Value) (h : AH) : Prop := Pt Pr K 11 none (retV Pr 11 Q) 53 [0] [.code (cc 11 2), .code (cc 11 3)] [] [t0] h
noncomputable def A11_1 (Q : Value → AH → Prop) (t0 t5 : Value) (h : AH) : Prop := Pt Pr K 11 none (retV Pr 11 Q) 53 [0, 5] [.code (cc 11 30), .code (cc 11 31)] [] [t0, t5] h
noncomputable def A11_2 (Q : Value → AH → Prop) (t0 t5 t6 t7 : Value) (h : AH) : Prop := Pt Pr K 11 none (retV Pr 11 Q) 53 [0, 5, 6, 7] [.code (cc 11 2000), .code (cc 11 2001), .code (cc 11 1001), .inLoop (cc 11 500), .inBlock 0, .code (cc 11 63)] [] [t0, t5, t6, t7] h
noncomputable def A11_3 (Q : Value → AH → Prop) (t0 t5 t6 t7 : Value) (h : AH) : Prop := Pt Pr K 11 none (retV Pr 11 Q) 53 [0, 5, 6, 7] [.code (cc 11 8008), .code (cc 11 8009), .inBlock 1, .code (cc 11 2003), .inLoop (cc 11 500), .inBlock 0, .code (cc 11 63)] [] [t0, t5, t6, t7] h
noncomputable def A11_4 (Q : Value → AH → Prop) (t5 t6 t7 t9 t11 : Value) (h : AH) : Prop := Pt Pr K 11 none (retV Pr 11 Q) 53 [5, 6, 7, 9, 11] [.code (cc 11 128156), .code (cc 11 128157), .code (cc 11 64079), .inBlock 1, .code (cc 11 2003), .inLoop (cc 11 500), .inBlock 0, .code (cc 11 63)] [] [t5, t6, t7, t9, t11] h
noncomputable def A11_5 (Q : Value → AH → Prop) (t5 t6 t7 t9 t11 : Value) (h : AH) : Prop := Pt Pr K 11 none (retV Pr 11 Q) 53 [5, 6, 7, 9, 11] [.code (cc 11 128158), .code (cc 11 128159), .inBlock 1, .code (cc 11 2003), .inLoop (cc 11 500), .inBlock 0, .code (cc 11 63)] [] [t5, t6, t7, t9, t11] h
theorem b11_0 {h : AH} {Q : Value → AH → Prop} {t0 : Value} (H :
 Cl Pr K 19 [t0, (.string ⟨#[10]⟩)] h fun v0 h0 => -- strings.Count
 thn (biI .gtr v0 (I 32)) fun v1 =>
 Br v1 (
 Q (.tuple ⟨[(.slice none 0 0), (I 0), (I 11)]⟩) h0) (
 A11_1 Q t0 v0 h0)
) : A11_0 Q t0 h := by intro e he; cases he; exact bF L11 (by kernel_rfl) H
theorem b11_1 {h : AH} {Q : Value → AH → Prop} {t0 t5 : Value} (H :
 A11_2 Q t0 t5 (.slice none 0 0) (I 1) h
) : A11_1 Q t0 t5 h := by intro e he; cases he; exact bF L11 (by kernel_rfl) H
theorem b11_2 {h : AH} {Q : Value → AH → Prop} {t0 t5 t6 t7 : Value} (H :
 thn (biT .neq t0 (.string ⟨#[]⟩)) fun v0 =>
 Br v0 (
 A11_3 Q t0 t5 t6 t7 h) (
 Q (.tuple ⟨[t6, (I 0), (I 0)]⟩) h)
) : A11_2 Q t0 t5 t6 t7 h := by intro e he; cases he; exact bF L11 (by kernel_rfl) H
theorem b11_3 {h : AH} {Q : Value → AH → Prop} {t0 t5 t6 t7 : Value} (H :
 Cl Pr K 20 [t0, (.string ⟨#[10]⟩)] h fun v0 h0 => -- strings.Cut
 thn (extV 0 v0) fun v1 =>
 thn (extV 1 v0) fun v2 =>
 thn (extV 2 v0) fun v3 =>
 Cl Pr K 21 [v1] h0 fun v4 h4 => -- donjon/isa.instr
 thn (extV 0 v4) fun v5 =>
 thn (extV 1 v4) fun v6 =>
 alc h4 (.cells [(I 0), (I 0), (I 0), (I 0)] 34 (0, 0) true) fun p8 h7 =>
 thn (stV h7 4 (pt p8 0 0) v5) fun h9 =>
 thn (unV .not v6) fun v10 =>
 Br v10 (
 Q (.tuple ⟨[(.slice none 0 0), t7, (I 14)]⟩) h9) (
 thn (unV .not v3) fun v11 =>
 Br v11 (
 Q (.tuple ⟨[(.slice none 0 0), t7, (I 14)]⟩) h9) (
 A11_4 Q t5 t6 t7 v2 (pt p8 0 0) h9))
) : A11_3 Q t0 t5 t6 t7 h := by intro e he; cases he; exact bF L11 (by kernel_rfl) H
theorem b11_4 {h : AH} {Q : Value → AH → Prop} {t5 t6 t7 t9 t11 : Value} (H :
 thn (ldN h 4 t11) fun v0 =>
 Cl Pr K 12 [v0, t5] h fun v1 h1 => -- donjon/isa.May
 thn (biI .neq v1 (I 0)) fun v2 =>
 Br v2 (
 Q (.tuple ⟨[(.slice none 0 0), t7, v1]⟩) h1) (
 A11_5 Q t5 t6 t7 t9 t11 h1)
) : A11_4 Q t5 t6 t7 t9 t11 h := by intro e he; cases he; exact bF L11 (by kernel_rfl) H
theorem b11_5 {h : AH} {Q : Value → AH → Prop} {t5 t6 t7 t9 t11 : Value} (H :
 thn (ldN h 4 t11) fun v0 =>
 thn (fillL [(I 0), (I 0), (I 0), (I 0)] [(0, 4, v0)]) fun l2 =>
 alcS h 4 34 l2 1 1 fun s3 h1 =>
 thn (appV 4 32 34 h1 t6 s3) fun r4 => (fun v5 h6 =>
 thn (biI .add t7 (I 1)) fun v7 =>
 A11_2 Q t9 t5 v5 v7 h6) r4.1 r4.2
) : A11_5 Q t5 t6 t7 t9 t11 h := by intro e he; cases he; exact bF L11 (by kernel_rfl) H
theorem c11 {h : AH} {Q : Value → AH → Prop} {a0 : Value} (H : A11_0 Q a0 h) : Cl Pr K 11 [a0] h Q :=
  ok_enter (by kernel_rfl) (by kernel_rfl) (Eq.mp (by kernel_rfl) (H (fun i => ([a0] : List Value).getD i undef) rfl))

/-! ### 12 donjon/isa.May: params 2, captured 0, results [tmp 4] -/
noncomputable def L12 : List (Option Nat × List Nat) := [(some 0, [0, 1, 14, 15]), (some 3, [2, 3, 4, 14, 15]), (some 5, [3, 5, 14, 15])]
noncomputable def A12_0 (ds : List Nat) (Q : Value → AH → Prop) (t0 t1 t14 t15 : Value) (h : AH) : Prop := Pt Pr K 12 none (retV Pr 12 Q) 22 [0, 1, 14, 15] [.code (cc 12 2), .code (cc 12 3)] ds [t0, t1, t14, t15] h
noncomputable def A12_1 (ds : List Nat) (Q : Value → AH → Prop) (t2 t3 t4 t14 t15 : Value) (h : AH) : Prop := Pt Pr K 12 none (retV Pr 12 Q) 22 [2, 3, 4, 14, 15] [.code (cc 12 26), .code (cc 12 27), .inScope (cc 12 6)] ds [t2, t3, t4, t14, t15] h
noncomputable def A12_2 (l : Nat) (Q : Value → AH → Prop) (t3 t5 t14 t15 : Value) (h : AH) : Prop := Pt Pr K 12 (some l) (roundOut l Q) 22 [3, 5, 14, 15] [.code (cc 12 1768), .code (cc 12 1769), .beginRound, .code (cc 12 885)] [] [t3, t5, t14, t15] h
theorem b12_0 {h : AH} {Q : Value → AH → Prop} {ds : List Nat} {t0 t1 t14 t15 : Value} (H :
 thn (blkOf 34 t0) fun b1 =>
 alc h b1 fun p2 h0 =>
 thn (blkOf 3 t1) fun b4 =>
 alc h0 b4 fun p5 h3 =>
 thn (padd 0 (pt p2 0 0)) fun v6 =>
 thn (ld1 h3 v6) fun v7 =>
 Cl Pr K 22 [v7] h3 fun v8 h8 => -- donjon/isa.is
 thn (unV .not v8) fun v9 =>
 Br v9 (
 thn (closeMarks ds h8) fun h10 =>
 Q (I 15) h10) (
 A12_1 ds Q (pt p2 0 0) (pt p5 0 0) (I 0) t14 t15 h8)
) : A12_0 ds Q t0 t1 t14 t15 h := by intro e he; cases he; exact bD L12 (by kernel_rfl) H
theorem b12_1 {h : AH} {Q : Value → AH → Prop} {ds : List Nat} {t2 t3 t4 t14 t15 : Value} (H :
 alc h (.cells [(I 0)] 24 (0, 0) true) fun p1 h0 =>
 thn (stV h0 1 (pt p1 0 0) (I 0)) fun h2 =>
 thn (ldN h2 4 t2) fun v3 =>
 Cl Pr K 15 [v3] h2 fun v4 h4 => -- donjon/isa.numbers
 alc h4 (.marks true) fun d6 h5 =>
 ∀ e12 : Nat → Value, List.map e12 [3, 5, 14, 15] = [t3, (pt p1 0 0), t14, t15] →
 alc h5 (lp Pr 12 (dcd 442) 22 e12 d6 .ready none) fun l7 h8 =>
 OkR Pr K v4 l7 h8 fun v9 h10 =>
 thn (endV h10 l7) fun r11 => (fun x14 h15 =>
 EndX x14 (
 thn (ld1 h15 (pt p1 0 0)) fun v16 =>
 thn (closeMarks (d6 :: ds) h15) fun h17 =>
 Q v16 h17) (
 thn (closeMarks (d6 :: ds) h15) fun h16 =>
 Q t4 h16) [(0, thn (ld1 h15 (pt p1 0 0)) fun v16 =>
 thn (closeMarks (d6 :: ds) h15) fun h17 =>
 Q v16 h17)]) r11.1 r11.2
) : A12_1 ds Q t2 t3 t4 t14 t15 h := by intro e he; cases he; exact bD L12 (by kernel_rfl) H
theorem b12_2 {h : AH} {Q : Value → AH → Prop} {l : Nat} {t3 t5 t14 t15 : Value} (H :
 thn (beginV h l) fun h0 =>
 thn (ld1 h0 t3) fun v1 =>
 Cl Pr K 23 [t14, t15, v1] h0 fun v2 h2 => -- donjon/isa.fits
 thn (unV .not v2) fun v3 =>
 Br v3 (
 thn (stV h2 1 t5 (I 10)) fun h4 =>
 thn (setLoop h4 l .done (some (some (.exit 0)))) fun h5 =>
 Q (.bool false) h5) (
 thn (setLoop h2 l .ready (some none)) fun h4 =>
 Q (.bool true) h4)
) : A12_2 l Q t3 t5 t14 t15 h := by intro e he; cases he; exact bR L12 (by kernel_rfl) H
theorem c12 {h : AH} {Q : Value → AH → Prop} {a0 a1 : Value} (H : A12_0 [] Q a0 a1 undef undef h) : Cl Pr K 12 [a0, a1] h Q :=
  ok_enter (by kernel_rfl) (by kernel_rfl) (Eq.mp (by kernel_rfl) (H (fun i => ([a0, a1] : List Value).getD i undef) rfl))
theorem r12_0 {h : AH} {Q : Value → AH → Prop} {l d : Nat} {e : Nat → Value} {st : LoopState} {pd : Option Code} {t3 t5 t14 t15 : Value} {a0 a1 : Value} (hg : h.get l = some (lp Pr 12 (dcd 442) 22 e d st pd)) (he : List.map e [3, 5, 14, 15] = [t3, t5, t14, t15]) (H : A12_2 l Q t3 t5 a0 a1 h) : OkF Pr K (.func (.yield l) #[] #[]) [a0, a1] h Q := by
  cases he; refine okF_round ?_; exact enter_lp (lv := [3, 5, 14, 15]) (vs := [e 3, e 5, a0, a1]) hg (by kernel_rfl) (by kernel_rfl) (Eq.mp (by kernel_rfl) H)

/-! ### 13 donjon/isa.Memory: params 1, captured 0, results [tmp 2] -/
noncomputable def L13 : List (Option Nat × List Nat) := [(some 0, [0])]
noncomputable def A13_0 (Q : Value → AH → Prop) (t0 : Value) (h : AH) : Prop := Pt Pr K 13 none (retV Pr 13 Q) 13 [0] [.code (cc 13 2), .code (cc 13 3)] [] [t0] h
theorem b13_0 {h : AH} {Q : Value → AH → Prop} {t0 : Value} (H :
 thn (biI .eql t0 (I 3)) fun v0 =>
 Br v0 (
 Q (.bool true) h) (
 thn (biI .eql t0 (I 4)) fun v1 =>
 Br v1 (
 Q (.bool true) h) (
 thn (biI .eql t0 (I 5)) fun v2 =>
 Q v2 h))
) : A13_0 Q t0 h := by intro e he; cases he; exact bF L13 (by kernel_rfl) H
theorem c13 {h : AH} {Q : Value → AH → Prop} {a0 : Value} (H : A13_0 Q a0 h) : Cl Pr K 13 [a0] h Q :=
  ok_enter (by kernel_rfl) (by kernel_rfl) (Eq.mp (by kernel_rfl) (H (fun i => ([a0] : List Value).getD i undef) rfl))

/-! ### 14 donjon/isa.Check: params 1, captured 0, results [tmp 2, tmp 3] -/
noncomputable def L14 : List (Option Nat × List Nat) := [(some 0, [0]), (some 3, [0]), (some 4, [0, 10, 11, 12]), (some 5, [0, 10, 11, 12]), (some 9, [0, 10, 11, 12])]
noncomputable def A14_0 (Q : Value → AH → Prop) (t0 : Value) (h : AH) : Prop := Pt Pr K 14 none (retV Pr 14 Q) 27 [0] [.code (cc 14 2), .code (cc 14 3)] [] [t0] h
noncomputable def A14_1 (Q : Value → AH → Prop) (t0 : Value) (h : AH) : Prop := Pt Pr K 14 none (retV Pr 14 Q) 27 [0] [.code (cc 14 28), .code (cc 14 29), .code (cc 14 15)] [] [t0] h
noncomputable def A14_2 (Q : Value → AH → Prop) (t0 t10 t11 t12 : Value) (h : AH) : Prop := Pt Pr K 14 none (retV Pr 14 Q) 27 [0, 10, 11, 12] [.code (cc 14 232), .code (cc 14 233), .inLoop (cc 14 116), .inBlock 0, .code (cc 14 15)] [] [t0, t10, t11, t12] h
noncomputable def A14_3 (Q : Value → AH → Prop) (t0 t10 t11 t12 : Value) (h : AH) : Prop := Pt Pr K 14 none (retV Pr 14 Q) 27 [0, 10, 11, 12] [.code (cc 14 3736), .code (cc 14 3737), .inBlock 1, .code (cc 14 935), .inLoop (cc 14 116), .inBlock 0, .code (cc 14 15)] [] [t0, t10, t11, t12] h
noncomputable def A14_4 (Q : Value → AH → Prop) (t0 t10 t11 t12 : Value) (h : AH) : Prop := Pt Pr K 14 none (retV Pr 14 Q) 27 [0, 10, 11, 12] [.code (cc 14 935), .inLoop (cc 14 116), .inBlock 0, .code (cc 14 15)] [] [t0, t10, t11, t12] h
theorem b14_0 {h : AH} {Q : Value → AH → Prop} {t0 : Value} (H :
 thn (lenS t0) fun v0 =>
 thn (biI .gtr v0 (I 32)) fun v1 =>
 Br v1 (
 Q (.tuple ⟨[(I 0), (I 11)]⟩) h) (
 A14_1 Q t0 h)
) : A14_0 Q t0 h := by intro e he; cases he; exact bF L14 (by kernel_rfl) H
theorem b14_1 {h : AH} {Q : Value → AH → Prop} {t0 : Value} (H :
 thn (lenS t0) fun v0 =>
 A14_2 Q t0 t0 v0 (I 0) h
) : A14_1 Q t0 h := by intro e he; cases he; exact bF L14 (by kernel_rfl) H
theorem b14_2 {h : AH} {Q : Value → AH → Prop} {t0 t10 t11 t12 : Value} (H :
 thn (biI .lss t12 t11) fun v0 =>
 Br v0 (
 A14_3 Q t0 t10 t11 t12 h) (
 Q (.tuple ⟨[(I 0), (I 0)]⟩) h)
) : A14_2 Q t0 t10 t11 t12 h := by intro e he; cases he; exact bF L14 (by kernel_rfl) H
theorem b14_3 {h : AH} {Q : Value → AH → Prop} {t0 t10 t11 t12 : Value} (H :
 thn (idxS 4 t10 t12) fun v0 =>
 thn (ldN h 4 v0) fun v1 =>
 alc h (.cells [(I 0), (I 0), (I 0), (I 0)] 34 (0, 0) true) fun p3 h2 =>
 thn (stV h2 4 (pt p3 0 0) v1) fun h4 =>
 thn (ldN h4 4 (pt p3 0 0)) fun v5 =>
 thn (lenS t0) fun v6 =>
 Cl Pr K 12 [v5, v6] h4 fun v7 h7 => -- donjon/isa.May
 thn (biI .neq v7 (I 0)) fun v8 =>
 Br v8 (
 thn (biI .add t12 (I 1)) fun v9 =>
 Q (.tuple ⟨[v9, v7]⟩) h7) (
 A14_4 Q t0 t10 t11 t12 h7)
) : A14_3 Q t0 t10 t11 t12 h := by intro e he; cases he; exact bF L14 (by kernel_rfl) H
theorem b14_4 {h : AH} {Q : Value → AH → Prop} {t0 t10 t11 t12 : Value} (H :
 thn (biI .add t12 (I 1)) fun v0 =>
 A14_2 Q t0 t10 t11 v0 h
) : A14_4 Q t0 t10 t11 t12 h := by intro e he; cases he; exact bF L14 (by kernel_rfl) H
theorem c14 {h : AH} {Q : Value → AH → Prop} {a0 : Value} (H : A14_0 Q a0 h) : Cl Pr K 14 [a0] h Q :=
  ok_enter (by kernel_rfl) (by kernel_rfl) (Eq.mp (by kernel_rfl) (H (fun i => ([a0] : List Value).getD i undef) rfl))

/-! ### 15 donjon/isa.numbers: params 1, captured 0, results [tmp 2] -/
noncomputable def L15 : List (Option Nat × List Nat) := [(some 0, [0])]
noncomputable def A15_0 (Q : Value → AH → Prop) (t0 : Value) (h : AH) : Prop := Pt Pr K 15 none (retV Pr 15 Q) 4 [0] [.code (cc 15 2), .code (cc 15 3)] [] [t0] h
theorem b15_0 {h : AH} {Q : Value → AH → Prop} {t0 : Value} (H :
 thn (blkOf 34 t0) fun b1 =>
 alc h b1 fun p2 h0 =>
 Q (.func (.func 24) #[] #[(pt p2 0 0)]) h0
) : A15_0 Q t0 h := by intro e he; cases he; exact bF L15 (by kernel_rfl) H
theorem c15 {h : AH} {Q : Value → AH → Prop} {a0 : Value} (H : A15_0 Q a0 h) : Cl Pr K 15 [a0] h Q :=
  ok_enter (by kernel_rfl) (by kernel_rfl) (Eq.mp (by kernel_rfl) (H (fun i => ([a0] : List Value).getD i undef) rfl))

/-! ### 17 donjon/donjonref10.Check: params 1, captured 0, results [tmp 2, tmp 3] -/
noncomputable def L17 : List (Option Nat × List Nat) := [(some 0, [0]), (some 3, [0]), (some 4, [0, 4]), (some 6, [0, 4]), (some 5, [0, 4])]
noncomputable def A17_0 (Q : Value → AH → Prop) (t0 : Value) (h : AH) : Prop := Pt Pr K 17 none (retV Pr 17 Q) 27 [0] [.code (cc 17 2), .code (cc 17 3)] [] [t0] h
noncomputable def A17_1 (Q : Value → AH → Prop) (t0 : Value) (h : AH) : Prop := Pt Pr K 17 none (retV Pr 17 Q) 27 [0] [.code (cc 17 28), .code (cc 17 29), .code (cc 17 15)] [] [t0] h
noncomputable def A17_2 (Q : Value → AH → Prop) (t0 t4 : Value) (h : AH) : Prop := Pt Pr K 17 none (retV Pr 17 Q) 27 [0, 4] [.code (cc 17 464), .code (cc 17 465), .code (cc 17 233), .inLoop (cc 17 116), .inBlock 0, .code (cc 17 15)] [] [t0, t4] h
noncomputable def A17_3 (Q : Value → AH → Prop) (t0 t4 : Value) (h : AH) : Prop := Pt Pr K 17 none (retV Pr 17 Q) 27 [0, 4] [.code (cc 17 1864), .code (cc 17 1865), .inBlock 1, .code (cc 17 467), .inLoop (cc 17 116), .inBlock 0, .code (cc 17 15)] [] [t0, t4] h
noncomputable def A17_4 (Q : Value → AH → Prop) (t0 t4 : Value) (h : AH) : Prop := Pt Pr K 17 none (retV Pr 17 Q) 27 [0, 4] [.code (cc 17 467), .inLoop (cc 17 116), .inBlock 0, .code (cc 17 15)] [] [t0, t4] h
theorem b17_0 {h : AH} {Q : Value → AH → Prop} {t0 : Value} (H :
 thn (lenS t0) fun v0 =>
 thn (biI .gtr v0 (I 32)) fun v1 =>
 Br v1 (
 Q (.tuple ⟨[(I 0), (I 11)]⟩) h) (
 A17_1 Q t0 h)
) : A17_0 Q t0 h := by intro e he; cases he; exact bF L17 (by kernel_rfl) H
theorem b17_1 {h : AH} {Q : Value → AH → Prop} {t0 : Value} (H :
 A17_2 Q t0 (I 0) h
) : A17_1 Q t0 h := by intro e he; cases he; exact bF L17 (by kernel_rfl) H
theorem b17_2 {h : AH} {Q : Value → AH → Prop} {t0 t4 : Value} (H :
 thn (lenS t0) fun v0 =>
 thn (biI .lss t4 v0) fun v1 =>
 Br v1 (
 A17_3 Q t0 t4 h) (
 Q (.tuple ⟨[(I 0), (I 0)]⟩) h)
) : A17_2 Q t0 t4 h := by intro e he; cases he; exact bF L17 (by kernel_rfl) H
theorem b17_3 {h : AH} {Q : Value → AH → Prop} {t0 t4 : Value} (H :
 thn (idxS 4 t0 t4) fun v0 =>
 thn (ldN h 4 v0) fun v1 =>
 thn (lenS t0) fun v2 =>
 Cl Pr K 26 [v1, v2] h fun v3 h3 => -- donjon/donjonref10.May
 thn (biI .neq v3 (I 0)) fun v4 =>
 Br v4 (
 thn (biI .add t4 (I 1)) fun v5 =>
 Q (.tuple ⟨[v5, v3]⟩) h3) (
 A17_4 Q t0 t4 h3)
) : A17_3 Q t0 t4 h := by intro e he; cases he; exact bF L17 (by kernel_rfl) H
theorem b17_4 {h : AH} {Q : Value → AH → Prop} {t0 t4 : Value} (H :
 thn (biI .add t4 (I 1)) fun v0 =>
 A17_2 Q t0 v0 h
) : A17_4 Q t0 t4 h := by intro e he; cases he; exact bF L17 (by kernel_rfl) H
theorem c17 {h : AH} {Q : Value → AH → Prop} {a0 : Value} (H : A17_0 Q a0 h) : Cl Pr K 17 [a0] h Q :=
  ok_enter (by kernel_rfl) (by kernel_rfl) (Eq.mp (by kernel_rfl) (H (fun i => ([a0] : List Value).getD i undef) rfl))

/-! ### 18 donjon/donjonref10.Line: params 1, captured 0, results [tmp 2] -/
noncomputable def L18 : List (Option Nat × List Nat) := [(some 0, [0]), (some 3, [1, 3, 4]), (some 5, [1, 3, 4])]
noncomputable def A18_0 (Q : Value → AH → Prop) (t0 : Value) (h : AH) : Prop := Pt Pr K 18 none (retV Pr 18 Q) 24 [0] [.code (cc 18 2), .code (cc 18 3)] [] [t0] h
noncomputable def A18_1 (Q : Value → AH → Prop) (t1 t3 t4 : Value) (h : AH) : Prop := Pt Pr K 18 none (retV Pr 18 Q) 24 [1, 3, 4] [.code (cc 18 464), .code (cc 18 465), .code (cc 18 233), .inLoop (cc 18 116), .inBlock 0, .code (cc 18 15)] [] [t1, t3, t4] h
noncomputable def A18_2 (Q : Value → AH → Prop) (t1 t3 t4 : Value) (h : AH) : Prop := Pt Pr K 18 none (retV Pr 18 Q) 24 [1, 3, 4] [.code (cc 18 932), .inBlock 1, .code (cc 18 467), .inLoop (cc 18 116), .inBlock 0, .code (cc 18 15)] [] [t1, t3, t4] h
theorem b18_0 {h : AH} {Q : Value → AH → Prop} {t0 : Value} (H :
 thn (blkOf 53 t0) fun b1 =>
 alc h b1 fun p2 h0 =>
 thn (padd 0 (pt p2 0 0)) fun v3 =>
 thn (ld1 h0 v3) fun v4 =>
 Cl Pr K 27 [v4] h0 fun v5 h5 => -- donjon/donjonref10.Word
 A18_1 Q (pt p2 0 0) v5 (I 0) h5
) : A18_0 Q t0 h := by intro e he; cases he; exact bF L18 (by kernel_rfl) H
theorem b18_1 {h : AH} {Q : Value → AH → Prop} {t1 t3 t4 : Value} (H :
 thn (padd 0 t1) fun v0 =>
 thn (ld1 h v0) fun v1 =>
 Cl Pr K 28 [v1] h fun v2 h2 => -- donjon/donjonref10.Many
 thn (biI .lss t4 v2) fun v3 =>
 Br v3 (
 A18_2 Q t1 t3 t4 h2) (
 Q t3 h2)
) : A18_1 Q t1 t3 t4 h := by intro e he; cases he; exact bF L18 (by kernel_rfl) H
theorem b18_2 {h : AH} {Q : Value → AH → Prop} {t1 t3 t4 : Value} (H :
 thn (biT .add t3 (.string ⟨#[32]⟩)) fun v0 =>
 thn (padd 1 t1) fun v1 =>
 thn (idxA 3 1 v1 t4) fun v2 =>
 thn (ld1 h v2) fun v3 =>
 Cl Pr K 29 [v3] h fun v4 h4 => -- donjon/donjonref03.Decimal
 thn (biT .add v0 v4) fun v5 =>
 thn (biI .add t4 (I 1)) fun v6 =>
 A18_1 Q t1 v5 v6 h4
) : A18_2 Q t1 t3 t4 h := by intro e he; cases he; exact bF L18 (by kernel_rfl) H
theorem c18 {h : AH} {Q : Value → AH → Prop} {a0 : Value} (H : A18_0 Q a0 h) : Cl Pr K 18 [a0] h Q :=
  ok_enter (by kernel_rfl) (by kernel_rfl) (Eq.mp (by kernel_rfl) (H (fun i => ([a0] : List Value).getD i undef) rfl))

/-! ### 20 strings.Cut: params 2, captured 0, results [tmp 4, tmp 5, tmp 6] -/
noncomputable def L20 : List (Option Nat × List Nat) := [(some 0, [0, 1])]
noncomputable def A20_0 (Q : Value → AH → Prop) (t0 t1 : Value) (h : AH) : Prop := Pt Pr K 20 none (retV Pr 20 Q) 13 [0, 1] [.code (cc 20 2), .code (cc 20 3)] [] [t0, t1] h
theorem b20_0 {h : AH} {Q : Value → AH → Prop} {t0 t1 : Value} (H :
 Cl Pr K 33 [t0, t1] h fun v0 h0 => -- internal/stringslite.Cut
 thn (extV 0 v0) fun v1 =>
 thn (extV 1 v0) fun v2 =>
 thn (extV 2 v0) fun v3 =>
 Q (.tuple ⟨[v1, v2, v3]⟩) h0
) : A20_0 Q t0 t1 h := by intro e he; cases he; exact bF L20 (by kernel_rfl) H
theorem c20 {h : AH} {Q : Value → AH → Prop} {a0 a1 : Value} (H : A20_0 Q a0 a1 h) : Cl Pr K 20 [a0, a1] h Q :=
  ok_enter (by kernel_rfl) (by kernel_rfl) (Eq.mp (by kernel_rfl) (H (fun i => ([a0, a1] : List Value).getD i undef) rfl))

/-! ### 21 donjon/isa.instr: params 1, captured 0, results [cell 2 : 34, tmp 3] -/
noncomputable def L21 : List (Option Nat × List Nat) := [(some 0, [0]), (some 5, [2, 4, 5]), (some 7, [2, 4, 5, 27, 28]), (some 8, [2, 4, 5, 27, 28]), (some 10, [2, 4, 5, 7, 27, 28]), (some 12, [2, 4, 5, 7, 27, 28]), (some 15, [2, 4, 5, 7, 8, 27, 28])]
noncomputable def A21_0 (Q : Value → AH → Prop) (t0 : Value) (h : AH) : Prop := Pt Pr K 21 none (retV Pr 21 Q) 72 [0] [.code (cc 21 2), .code (cc 21 3)] [] [t0] h
noncomputable def A21_1 (Q : Value → AH → Prop) (t2 t4 t5 : Value) (h : AH) : Prop := Pt Pr K 21 none (retV Pr 21 Q) 72 [2, 4, 5] [.code (cc 21 62), .code (cc 21 63)] [] [t2, t4, t5] h
noncomputable def A21_2 (Q : Value → AH → Prop) (t2 t4 t5 t27 t28 : Value) (h : AH) : Prop := Pt Pr K 21 none (retV Pr 21 Q) 72 [2, 4, 5, 27, 28] [.code (cc 21 2024), .code (cc 21 2025), .inLoop (cc 21 1012), .inBlock 0, .code (cc 21 127)] [] [t2, t4, t5, t27, t28] h
noncomputable def A21_3 (Q : Value → AH → Prop) (t2 t4 t5 t27 t28 : Value) (h : AH) : Prop := Pt Pr K 21 none (retV Pr 21 Q) 72 [2, 4, 5, 27, 28] [.code (cc 21 32408), .code (cc 21 32409), .inBlock 1, .code (cc 21 8103), .inLoop (cc 21 1012), .inBlock 0, .code (cc 21 127)] [] [t2, t4, t5, t27, t28] h
noncomputable def A21_4 (Q : Value → AH → Prop) (t2 t4 t5 t7 t27 t28 : Value) (h : AH) : Prop := Pt Pr K 21 none (retV Pr 21 Q) 72 [2, 4, 5, 7, 27, 28] [.code (cc 21 259276), .code (cc 21 259277), .code (cc 21 129639), .inBlock 1, .code (cc 21 8103), .inLoop (cc 21 1012), .inBlock 0, .code (cc 21 127)] [] [t2, t4, t5, t7, t27, t28] h
noncomputable def A21_5 (Q : Value → AH → Prop) (t2 t4 t5 t7 t27 t28 : Value) (h : AH) : Prop := Pt Pr K 21 none (retV Pr 21 Q) 72 [2, 4, 5, 7, 27, 28] [.code (cc 21 259278), .code (cc 21 259279), .inBlock 1, .code (cc 21 8103), .inLoop (cc 21 1012), .inBlock 0, .code (cc 21 127)] [] [t2, t4, t5, t7, t27, t28] h
noncomputable def A21_6 (Q : Value → AH → Prop) (t2 t4 t5 t7 t8 t27 t28 : Value) (h : AH) : Prop := Pt Pr K 21 none (retV Pr 21 Q) 72 [2, 4, 5, 7, 8, 27, 28] [.code (cc 21 1037118), .code (cc 21 1037119), .inBlock 1, .code (cc 21 8103), .inLoop (cc 21 1012), .inBlock 0, .code (cc 21 127)] [] [t2, t4, t5, t7, t8, t27, t28] h
theorem b21_0 {h : AH} {Q : Value → AH → Prop} {t0 : Value} (H :
 alc h (.cells [(I 0), (I 0), (I 0), (I 0)] 34 (0, 0) true) fun p1 h0 =>
 Cl Pr K 34 [t0, (.string ⟨#[32]⟩)] h0 fun v2 h2 => -- strings.Split
 thn (idxS 1 v2 (I 0)) fun v3 =>
 thn (ld1 h2 v3) fun v4 =>
 Cl Pr K 35 [v4] h2 fun v5 h5 => -- donjon/isa.opOf
 thn (fillL [(I 0), (I 0), (I 0), (I 0)] [(0, 1, v5)]) fun c6 =>
 alc h5 (.cells [(I 0), (I 0), (I 0), (I 0)] 34 (0, 0) true) fun p8 h7 =>
 thn (stV h7 4 (pt p8 0 0) (.agg ⟨c6⟩)) fun h9 =>
 thn (padd 0 (pt p8 0 0)) fun v10 =>
 thn (ld1 h9 v10) fun v11 =>
 Cl Pr K 22 [v11] h9 fun v12 h12 => -- donjon/isa.is
 thn (unV .not v12) fun v13 =>
 Br v13 (
 thn (fillL [(I 0), (I 0), (I 0), (I 0)] []) fun c14 =>
 thn (stV h12 4 (pt p1 0 0) (.agg ⟨c14⟩)) fun h15 =>
 thn (ldN h15 4 (pt p1 0 0)) fun v16 =>
 Q (.tuple ⟨[v16, (.bool false)]⟩) h15) (
 A21_1 Q (pt p1 0 0) v2 (pt p8 0 0) h12)
) : A21_0 Q t0 h := by intro e he; cases he; exact bF L21 (by kernel_rfl) H
theorem b21_1 {h : AH} {Q : Value → AH → Prop} {t2 t4 t5 : Value} (H :
 thn (slS 1 h t4 (some (I 1)) none none) fun v0 =>
 thn (padd 1 t5) fun v1 =>
 thn (padd 2 t5) fun v2 =>
 thn (padd 3 t5) fun v3 =>
 thn (fillL [(.pointer none), (.pointer none), (.pointer none)] [(0, 1, v1), (1, 1, v2), (2, 1, v3)]) fun c4 =>
 A21_2 Q t2 v0 t5 (.agg ⟨c4⟩) (I 0) h
) : A21_1 Q t2 t4 t5 h := by intro e he; cases he; exact bF L21 (by kernel_rfl) H
theorem b21_2 {h : AH} {Q : Value → AH → Prop} {t2 t4 t5 t27 t28 : Value} (H :
 thn (biI .lss t28 (I 3)) fun v0 =>
 Br v0 (
 A21_3 Q t2 t4 t5 t27 t28 h) (
 thn (ldN h 4 t5) fun v1 =>
 thn (lenS t4) fun v2 =>
 thn (biI .eql v2 (I 0)) fun v3 =>
 thn (stV h 4 t2 v1) fun h4 =>
 thn (ldN h4 4 t2) fun v5 =>
 Q (.tuple ⟨[v5, v3]⟩) h4)
) : A21_2 Q t2 t4 t5 t27 t28 h := by intro e he; cases he; exact bF L21 (by kernel_rfl) H
theorem b21_3 {h : AH} {Q : Value → AH → Prop} {t2 t4 t5 t27 t28 : Value} (H :
 thn (at1 3 1 t27 t28) fun v0 =>
 thn (padd 0 t5) fun v1 =>
 thn (ld1 h v1) fun v2 =>
 thn (idxA 12 4 (.pointer (some ⟨0, 0, none⟩)) v2) fun v3 =>
 thn (padd 1 v3) fun v4 =>
 thn (idxA 3 1 v4 t28) fun v5 =>
 thn (ld1 h v5) fun v6 =>
 thn (biI .eql v6 (I 0)) fun v7 =>
 Br v7 (
 thn (ldN h 4 t5) fun v8 =>
 thn (lenS t4) fun v9 =>
 thn (biI .eql v9 (I 0)) fun v10 =>
 thn (stV h 4 t2 v8) fun h11 =>
 thn (ldN h11 4 t2) fun v12 =>
 Q (.tuple ⟨[v12, v10]⟩) h11) (
 A21_4 Q t2 t4 t5 v0 t27 t28 h)
) : A21_3 Q t2 t4 t5 t27 t28 h := by intro e he; cases he; exact bF L21 (by kernel_rfl) H
theorem b21_4 {h : AH} {Q : Value → AH → Prop} {t2 t4 t5 t7 t27 t28 : Value} (H :
 thn (lenS t4) fun v0 =>
 thn (biI .eql v0 (I 0)) fun v1 =>
 Br v1 (
 thn (fillL [(I 0), (I 0), (I 0), (I 0)] []) fun c2 =>
 thn (stV h 4 t2 (.agg ⟨c2⟩)) fun h3 =>
 thn (ldN h3 4 t2) fun v4 =>
 Q (.tuple ⟨[v4, (.bool false)]⟩) h3) (
 A21_5 Q t2 t4 t5 t7 t27 t28 h)
) : A21_4 Q t2 t4 t5 t7 t27 t28 h := by intro e he; cases he; exact bF L21 (by kernel_rfl) H
theorem b21_5 {h : AH} {Q : Value → AH → Prop} {t2 t4 t5 t7 t27 t28 : Value} (H :
 thn (idxS 1 t4 (I 0)) fun v0 =>
 thn (ld1 h v0) fun v1 =>
 Cl Pr K 36 [v1] h fun v2 h2 => -- strconv.Atoi
 thn (extV 0 v2) fun v3 =>
 thn (extV 1 v2) fun v4 =>
 resv h2 10 fun r6 h5 =>
 thn (biE true .neq v4 .nilIface) fun v7 =>
 Br v7 (
 thn (fillL [(I 0), (I 0), (I 0), (I 0)] []) fun c8 =>
 thn (stV h5 4 t2 (.agg ⟨c8⟩)) fun h9 =>
 thn (ldN h9 4 t2) fun v10 =>
 Q (.tuple ⟨[v10, (.bool false)]⟩) h9) (
 Cl Pr K 16 [v3] h5 fun v8 h8 => -- strconv.Itoa
 thn (idxS 1 t4 (I 0)) fun v9 =>
 thn (ld1 h8 v9) fun v10 =>
 thn (biT .neq v8 v10) fun v11 =>
(veq t4 t4 = true) ∧ (
(thn (idxS 1 t4 (I 0)) fun v12 =>
 veq v12 v9 = true) ∧ (
(thn (ld1 h5 v9) fun v13 =>
 veq v13 v10 = true) ∧ (
 Br v11 (
 thn (fillL [(I 0), (I 0), (I 0), (I 0)] []) fun c14 =>
 thn (stV h8 4 t2 (.agg ⟨c14⟩)) fun h15 =>
 thn (ldN h15 4 t2) fun v16 =>
 Q (.tuple ⟨[v16, (.bool false)]⟩) h15) (
 A21_6 Q t2 t4 t5 t7 v3 t27 t28 h8)))))
) : A21_5 Q t2 t4 t5 t7 t27 t28 h := by intro e he; cases he; exact bF L21 (by kernel_rfl) H
theorem b21_6 {h : AH} {Q : Value → AH → Prop} {t2 t4 t5 t7 t8 t27 t28 : Value} (H :
 thn (nilV t7) fun v0 =>
 thn (stV h 1 v0 t8) fun h1 =>
 thn (slS 1 h1 t4 (some (I 1)) none none) fun v2 =>
 thn (biI .add t28 (I 1)) fun v3 =>
 A21_2 Q t2 v2 t5 t27 v3 h1
) : A21_6 Q t2 t4 t5 t7 t8 t27 t28 h := by intro e he; cases he; exact bF L21 (by kernel_rfl) H
theorem c21 {h : AH} {Q : Value → AH → Prop} {a0 : Value} (H : A21_0 Q a0 h) : Cl Pr K 21 [a0] h Q :=
  ok_enter (by kernel_rfl) (by kernel_rfl) (Eq.mp (by kernel_rfl) (H (fun i => ([a0] : List Value).getD i undef) rfl))

/-! ### 22 donjon/isa.is: params 1, captured 0, results [tmp 2] -/
noncomputable def L22 : List (Option Nat × List Nat) := [(some 0, [0])]
noncomputable def A22_0 (Q : Value → AH → Prop) (t0 : Value) (h : AH) : Prop := Pt Pr K 22 none (retV Pr 22 Q) 9 [0] [.code (cc 22 2), .code (cc 22 3)] [] [t0] h
theorem b22_0 {h : AH} {Q : Value → AH → Prop} {t0 : Value} (H :
 thn (biI .geq t0 (I 1)) fun v0 =>
 Br v0 (
 thn (biI .lss t0 (I 12)) fun v1 =>
 Q v1 h) (
 Q (.bool false) h)
) : A22_0 Q t0 h := by intro e he; cases he; exact bF L22 (by kernel_rfl) H
theorem c22 {h : AH} {Q : Value → AH → Prop} {a0 : Value} (H : A22_0 Q a0 h) : Cl Pr K 22 [a0] h Q :=
  ok_enter (by kernel_rfl) (by kernel_rfl) (Eq.mp (by kernel_rfl) (H (fun i => ([a0] : List Value).getD i undef) rfl))

/-! ### 23 donjon/isa.fits: params 3, captured 0, results [tmp 6] -/
noncomputable def L23 : List (Option Nat × List Nat) := [(some 0, [0, 1, 2]), (some 4, [1, 2, 7]), (some 6, [1, 2, 7]), (some 8, [1, 2, 7]), (some 10, [1, 2, 7])]
noncomputable def A23_0 (Q : Value → AH → Prop) (t0 t1 t2 : Value) (h : AH) : Prop := Pt Pr K 23 none (retV Pr 23 Q) 45 [0, 1, 2] [.code (cc 23 2), .code (cc 23 3)] [] [t0, t1, t2] h
noncomputable def A23_1 (Q : Value → AH → Prop) (t1 t2 t7 : Value) (h : AH) : Prop := Pt Pr K 23 none (retV Pr 23 Q) 45 [1, 2, 7] [.code (cc 23 214), .code (cc 23 215), .inBlock 0, .code (cc 23 7)] [] [t1, t2, t7] h
noncomputable def A23_2 (Q : Value → AH → Prop) (t1 t2 t7 : Value) (h : AH) : Prop := Pt Pr K 23 none (retV Pr 23 Q) 45 [1, 2, 7] [.code (cc 23 862), .code (cc 23 863), .inBlock 0, .code (cc 23 7)] [] [t1, t2, t7] h
noncomputable def A23_3 (Q : Value → AH → Prop) (t1 t2 t7 : Value) (h : AH) : Prop := Pt Pr K 23 none (retV Pr 23 Q) 45 [1, 2, 7] [.code (cc 23 3454), .code (cc 23 3455), .inBlock 0, .code (cc 23 7)] [] [t1, t2, t7] h
noncomputable def A23_4 (Q : Value → AH → Prop) (t1 t2 t7 : Value) (h : AH) : Prop := Pt Pr K 23 none (retV Pr 23 Q) 45 [1, 2, 7] [.code (cc 23 13822), .code (cc 23 13823), .inBlock 0, .code (cc 23 7)] [] [t1, t2, t7] h
theorem b23_0 {h : AH} {Q : Value → AH → Prop} {t0 t1 t2 : Value} (H :
 thn (biI .eql t0 (I 1)) fun v0 =>
 Br v0 (
 thn (biI .geq t1 (I 0)) fun v1 =>
 Br v1 (
 thn (biI .lss t1 (I 4)) fun v2 =>
 Q v2 h) (
 Q (.bool false) h)) (
 A23_1 Q t1 t2 t0 h)
) : A23_0 Q t0 t1 t2 h := by intro e he; cases he; exact bF L23 (by kernel_rfl) H
theorem b23_1 {h : AH} {Q : Value → AH → Prop} {t1 t2 t7 : Value} (H :
 thn (biI .eql t7 (I 2)) fun v0 =>
 Br v0 (
 Q (.bool true) h) (
 A23_2 Q t1 t2 t7 h)
) : A23_1 Q t1 t2 t7 h := by intro e he; cases he; exact bF L23 (by kernel_rfl) H
theorem b23_2 {h : AH} {Q : Value → AH → Prop} {t1 t2 t7 : Value} (H :
 thn (biI .eql t7 (I 3)) fun v0 =>
 Br v0 (
 thn (biI .geq t1 (I 1)) fun v1 =>
 Br v1 (
 thn (biI .leq t1 (I 3)) fun v2 =>
 Q v2 h) (
 Q (.bool false) h)) (
 A23_3 Q t1 t2 t7 h)
) : A23_2 Q t1 t2 t7 h := by intro e he; cases he; exact bF L23 (by kernel_rfl) H
theorem b23_3 {h : AH} {Q : Value → AH → Prop} {t1 t2 t7 : Value} (H :
 thn (biI .eql t7 (I 4)) fun v0 =>
 Br v0 (
 thn (biI .geq t1 (I 1)) fun v1 =>
 Br v1 (
 thn (biI .leq t1 (I 4)) fun v2 =>
 Q v2 h) (
 Q (.bool false) h)) (
 A23_4 Q t1 t2 t7 h)
) : A23_3 Q t1 t2 t7 h := by intro e he; cases he; exact bF L23 (by kernel_rfl) H
theorem b23_4 {h : AH} {Q : Value → AH → Prop} {t1 t2 t7 : Value} (H :
 thn (biI .eql t7 (I 5)) fun v0 =>
 Br v0 (
 thn (biI .geq t1 (I 0)) fun v1 =>
 Br v1 (
 thn (biI .leq t1 t2) fun v2 =>
 Q v2 h) (
 Q (.bool false) h)) (
 thn (biI .eql t1 (I 0)) fun v1 =>
 Q v1 h)
) : A23_4 Q t1 t2 t7 h := by intro e he; cases he; exact bF L23 (by kernel_rfl) H
theorem c23 {h : AH} {Q : Value → AH → Prop} {a0 a1 a2 : Value} (H : A23_0 Q a0 a1 a2 h) : Cl Pr K 23 [a0, a1, a2] h Q :=
  ok_enter (by kernel_rfl) (by kernel_rfl) (Eq.mp (by kernel_rfl) (H (fun i => ([a0, a1, a2] : List Value).getD i undef) rfl))

/-! ### 24 donjon/isa.numbers$1: params 1, captured 1, results [] -/
noncomputable def L24 : List (Option Nat × List Nat) := [(some 0, [0, 1]), (some 1, [0, 1, 11, 12]), (some 2, [0, 1, 11, 12]), (some 4, [0, 1, 11, 12])]
noncomputable def A24_0 (Q : Value → AH → Prop) (t0 t1 : Value) (h : AH) : Prop := Pt Pr K 24 none (retV Pr 24 Q) 28 [0, 1] [.code (cc 24 2), .code (cc 24 3)] [] [t0, t1] h
noncomputable def A24_1 (Q : Value → AH → Prop) (t0 t1 t11 t12 : Value) (h : AH) : Prop := Pt Pr K 24 none (retV Pr 24 Q) 28 [0, 1, 11, 12] [.code (cc 24 24), .code (cc 24 25), .inLoop (cc 24 12), .inBlock 0] [] [t0, t1, t11, t12] h
noncomputable def A24_2 (Q : Value → AH → Prop) (t0 t1 t11 t12 : Value) (h : AH) : Prop := Pt Pr K 24 none (retV Pr 24 Q) 28 [0, 1, 11, 12] [.code (cc 24 408), .code (cc 24 409), .inBlock 1, .code (cc 24 103), .inLoop (cc 24 12), .inBlock 0] [] [t0, t1, t11, t12] h
noncomputable def A24_3 (Q : Value → AH → Prop) (t0 t1 t11 t12 : Value) (h : AH) : Prop := Pt Pr K 24 none (retV Pr 24 Q) 28 [0, 1, 11, 12] [.code (cc 24 103), .inLoop (cc 24 12), .inBlock 0] [] [t0, t1, t11, t12] h
theorem b24_0 {h : AH} {Q : Value → AH → Prop} {t0 t1 : Value} (H :
 thn (padd 1 t1) fun v0 =>
 thn (ld1 h v0) fun v1 =>
 thn (padd 2 t1) fun v2 =>
 thn (ld1 h v2) fun v3 =>
 thn (padd 3 t1) fun v4 =>
 thn (ld1 h v4) fun v5 =>
 thn (fillL [(I 0), (I 0), (I 0)] [(0, 1, v1), (1, 1, v3), (2, 1, v5)]) fun c6 =>
 A24_1 Q t0 t1 (.agg ⟨c6⟩) (I 0) h
) : A24_0 Q t0 t1 h := by intro e he; cases he; exact bF L24 (by kernel_rfl) H
theorem b24_1 {h : AH} {Q : Value → AH → Prop} {t0 t1 t11 t12 : Value} (H :
 thn (biI .lss t12 (I 3)) fun v0 =>
 Br v0 (
 A24_2 Q t0 t1 t11 t12 h) (
 Q (.tuple ⟨[]⟩) h)
) : A24_1 Q t0 t1 t11 t12 h := by intro e he; cases he; exact bF L24 (by kernel_rfl) H
theorem b24_2 {h : AH} {Q : Value → AH → Prop} {t0 t1 t11 t12 : Value} (H :
 thn (at1 3 1 t11 t12) fun v0 =>
 thn (padd 0 t1) fun v1 =>
 thn (ld1 h v1) fun v2 =>
 thn (idxA 12 4 (.pointer (some ⟨0, 0, none⟩)) v2) fun v3 =>
 thn (padd 1 v3) fun v4 =>
 thn (idxA 3 1 v4 t12) fun v5 =>
 thn (ld1 h v5) fun v6 =>
 OkF Pr K t0 [v6, v0] h fun v7 h7 =>
 thn (unV .not v7) fun v8 =>
 Br v8 (
 Q (.tuple ⟨[]⟩) h7) (
 A24_3 Q t0 t1 t11 t12 h7)
) : A24_2 Q t0 t1 t11 t12 h := by intro e he; cases he; exact bF L24 (by kernel_rfl) H
theorem b24_3 {h : AH} {Q : Value → AH → Prop} {t0 t1 t11 t12 : Value} (H :
 thn (biI .add t12 (I 1)) fun v0 =>
 A24_1 Q t0 t1 t11 v0 h
) : A24_3 Q t0 t1 t11 t12 h := by intro e he; cases he; exact bF L24 (by kernel_rfl) H
theorem c24 {h : AH} {Q : Value → AH → Prop} {a0 a1 : Value} (H : A24_0 Q a0 a1 h) : Cl Pr K 24 [a0, a1] h Q :=
  ok_enter (by kernel_rfl) (by kernel_rfl) (Eq.mp (by kernel_rfl) (H (fun i => ([a0, a1] : List Value).getD i undef) rfl))

/-! ### 26 donjon/donjonref10.May: params 2, captured 0, results [tmp 4] -/
noncomputable def L26 : List (Option Nat × List Nat) := [(some 0, [0, 1]), (some 3, [1, 2]), (some 4, [1, 2, 5]), (some 6, [1, 2, 5]), (some 8, [1, 2, 5, 6]), (some 10, [1, 2, 5, 6]), (some 5, [1, 2, 5])]
noncomputable def A26_0 (Q : Value → AH → Prop) (t0 t1 : Value) (h : AH) : Prop := Pt Pr K 26 none (retV Pr 26 Q) 49 [0, 1] [.code (cc 26 2), .code (cc 26 3)] [] [t0, t1] h
noncomputable def A26_1 (Q : Value → AH → Prop) (t1 t2 : Value) (h : AH) : Prop := Pt Pr K 26 none (retV Pr 26 Q) 49 [1, 2] [.code (cc 26 28), .code (cc 26 29), .code (cc 26 15)] [] [t1, t2] h
noncomputable def A26_2 (Q : Value → AH → Prop) (t1 t2 t5 : Value) (h : AH) : Prop := Pt Pr K 26 none (retV Pr 26 Q) 49 [1, 2, 5] [.code (cc 26 464), .code (cc 26 465), .code (cc 26 233), .inLoop (cc 26 116), .inBlock 0, .code (cc 26 15)] [] [t1, t2, t5] h
noncomputable def A26_3 (Q : Value → AH → Prop) (t1 t2 t5 : Value) (h : AH) : Prop := Pt Pr K 26 none (retV Pr 26 Q) 49 [1, 2, 5] [.code (cc 26 1864), .code (cc 26 1865), .inBlock 1, .code (cc 26 467), .inLoop (cc 26 116), .inBlock 0, .code (cc 26 15)] [] [t1, t2, t5] h
noncomputable def A26_4 (Q : Value → AH → Prop) (t1 t2 t5 t6 : Value) (h : AH) : Prop := Pt Pr K 26 none (retV Pr 26 Q) 49 [1, 2, 5, 6] [.code (cc 26 59688), .code (cc 26 59689), .code (cc 26 29845), .code (cc 26 3731), .inBlock 1, .code (cc 26 467), .inLoop (cc 26 116), .inBlock 0, .code (cc 26 15)] [] [t1, t2, t5, t6] h
noncomputable def A26_5 (Q : Value → AH → Prop) (t1 t2 t5 t6 : Value) (h : AH) : Prop := Pt Pr K 26 none (retV Pr 26 Q) 49 [1, 2, 5, 6] [.code (cc 26 7462), .code (cc 26 7463), .inBlock 1, .code (cc 26 467), .inLoop (cc 26 116), .inBlock 0, .code (cc 26 15)] [] [t1, t2, t5, t6] h
noncomputable def A26_6 (Q : Value → AH → Prop) (t1 t2 t5 : Value) (h : AH) : Prop := Pt Pr K 26 none (retV Pr 26 Q) 49 [1, 2, 5] [.code (cc 26 467), .inLoop (cc 26 116), .inBlock 0, .code (cc 26 15)] [] [t1, t2, t5] h
theorem b26_0 {h : AH} {Q : Value → AH → Prop} {t0 t1 : Value} (H :
 thn (blkOf 53 t0) fun b1 =>
 alc h b1 fun p2 h0 =>
 thn (padd 0 (pt p2 0 0)) fun v3 =>
 thn (ld1 h0 v3) fun v4 =>
 Cl Pr K 27 [v4] h0 fun v5 h5 => -- donjon/donjonref10.Word
 thn (biT .eql v5 (.string ⟨#[]⟩)) fun v6 =>
 Br v6 (
 Q (I 15) h5) (
 A26_1 Q t1 (pt p2 0 0) h5)
) : A26_0 Q t0 t1 h := by intro e he; cases he; exact bF L26 (by kernel_rfl) H
theorem b26_1 {h : AH} {Q : Value → AH → Prop} {t1 t2 : Value} (H :
 A26_2 Q t1 t2 (I 0) h
) : A26_1 Q t1 t2 h := by intro e he; cases he; exact bF L26 (by kernel_rfl) H
theorem b26_2 {h : AH} {Q : Value → AH → Prop} {t1 t2 t5 : Value} (H :
 thn (biI .lss t5 (I 3)) fun v0 =>
 Br v0 (
 A26_3 Q t1 t2 t5 h) (
 Q (I 0) h)
) : A26_2 Q t1 t2 t5 h := by intro e he; cases he; exact bF L26 (by kernel_rfl) H
theorem b26_3 {h : AH} {Q : Value → AH → Prop} {t1 t2 t5 : Value} (H :
 thn (padd 1 t2) fun v0 =>
 thn (idxA 3 1 v0 t5) fun v1 =>
 thn (ld1 h v1) fun v2 =>
 thn (padd 0 t2) fun v3 =>
 thn (ld1 h v3) fun v4 =>
 Cl Pr K 28 [v4] h fun v5 h5 => -- donjon/donjonref10.Many
 thn (biI .geq t5 v5) fun v6 =>
 Br v6 (
 A26_4 Q t1 t2 t5 v2 h5) (
 A26_5 Q t1 t2 t5 v2 h5)
) : A26_3 Q t1 t2 t5 h := by intro e he; cases he; exact bF L26 (by kernel_rfl) H
theorem b26_4 {h : AH} {Q : Value → AH → Prop} {t1 t2 t5 t6 : Value} (H :
 thn (biI .neq t6 (I 0)) fun v0 =>
 Br v0 (
 Q (I 10) h) (
 A26_6 Q t1 t2 t5 h)
) : A26_4 Q t1 t2 t5 t6 h := by intro e he; cases he; exact bF L26 (by kernel_rfl) H
theorem b26_5 {h : AH} {Q : Value → AH → Prop} {t1 t2 t5 t6 : Value} (H :
 thn (padd 0 t2) fun v0 =>
 thn (ld1 h v0) fun v1 =>
 Cl Pr K 38 [v1, t5, t1] h fun v2 h2 => -- donjon/donjonref10.Most
 thn (extV 0 v2) fun v3 =>
 thn (extV 1 v2) fun v4 =>
 thn (extV 2 v2) fun v5 =>
 Br v5 (
 thn (biI .lss t6 v3) fun v6 =>
 Br v6 (
 Q (I 10) h2) (
 thn (biI .gtr t6 v4) fun v7 =>
 Br v7 (
 Q (I 10) h2) (
 A26_6 Q t1 t2 t5 h2))) (
 thn (biI .add t5 (I 1)) fun v6 =>
 A26_2 Q t1 t2 v6 h2)
) : A26_5 Q t1 t2 t5 t6 h := by intro e he; cases he; exact bF L26 (by kernel_rfl) H
theorem b26_6 {h : AH} {Q : Value → AH → Prop} {t1 t2 t5 : Value} (H :
 thn (biI .add t5 (I 1)) fun v0 =>
 A26_2 Q t1 t2 v0 h
) : A26_6 Q t1 t2 t5 h := by intro e he; cases he; exact bF L26 (by kernel_rfl) H
theorem c26 {h : AH} {Q : Value → AH → Prop} {a0 a1 : Value} (H : A26_0 Q a0 a1 h) : Cl Pr K 26 [a0, a1] h Q :=
  ok_enter (by kernel_rfl) (by kernel_rfl) (Eq.mp (by kernel_rfl) (H (fun i => ([a0, a1] : List Value).getD i undef) rfl))

/-! ### 27 donjon/donjonref10.Word: params 1, captured 0, results [tmp 2] -/
noncomputable def L27 : List (Option Nat × List Nat) := [(some 0, [0]), (some 3, [0])]
noncomputable def A27_0 (Q : Value → AH → Prop) (t0 : Value) (h : AH) : Prop := Pt Pr K 27 none (retV Pr 27 Q) 16 [0] [.code (cc 27 2), .code (cc 27 3)] [] [t0] h
noncomputable def A27_1 (Q : Value → AH → Prop) (t0 : Value) (h : AH) : Prop := Pt Pr K 27 none (retV Pr 27 Q) 16 [0] [.code (cc 27 14), .code (cc 27 15)] [] [t0] h
theorem b27_0 {h : AH} {Q : Value → AH → Prop} {t0 : Value} (H :
 thn (biI .lss t0 (I 1)) fun v0 =>
 Br v0 (
 Q (.string ⟨#[]⟩) h) (
 thn (biI .gtr t0 (I 11)) fun v1 =>
 Br v1 (
 Q (.string ⟨#[]⟩) h) (
 A27_1 Q t0 h))
) : A27_0 Q t0 h := by intro e he; cases he; exact bF L27 (by kernel_rfl) H
theorem b27_1 {h : AH} {Q : Value → AH → Prop} {t0 : Value} (H :
 thn (fillL [(.string ⟨#[]⟩), (.string ⟨#[]⟩), (.string ⟨#[]⟩), (.string ⟨#[]⟩), (.string ⟨#[]⟩), (.string ⟨#[]⟩), (.string ⟨#[]⟩), (.string ⟨#[]⟩), (.string ⟨#[]⟩), (.string ⟨#[]⟩), (.string ⟨#[]⟩)] [(0, 1, (.string ⟨#[115, 101, 116]⟩)), (1, 1, (.string ⟨#[97, 100, 100]⟩)), (2, 1, (.string ⟨#[108, 111, 97, 100]⟩)), (3, 1, (.string ⟨#[115, 116, 111, 114, 101]⟩)), (4, 1, (.string ⟨#[115, 119, 97, 112]⟩)), (5, 1, (.string ⟨#[102, 101, 110, 99, 101]⟩)), (6, 1, (.string ⟨#[119, 111, 114, 108, 100]⟩)), (7, 1, (.string ⟨#[99, 97, 108, 108]⟩)), (8, 1, (.string ⟨#[106, 117, 109, 112]⟩)), (9, 1, (.string ⟨#[122, 101, 114, 111]⟩)), (10, 1, (.string ⟨#[104, 97, 108, 116]⟩))]) fun l1 =>
 alcS h 1 9 l1 11 11 fun s2 h0 =>
 thn (biI .sub t0 (I 1)) fun v3 =>
 thn (idxS 1 s2 v3) fun v4 =>
 thn (ld1 h0 v4) fun v5 =>
 Q v5 h0
) : A27_1 Q t0 h := by intro e he; cases he; exact bF L27 (by kernel_rfl) H
theorem c27 {h : AH} {Q : Value → AH → Prop} {a0 : Value} (H : A27_0 Q a0 h) : Cl Pr K 27 [a0] h Q :=
  ok_enter (by kernel_rfl) (by kernel_rfl) (Eq.mp (by kernel_rfl) (H (fun i => ([a0] : List Value).getD i undef) rfl))

/-! ### 28 donjon/donjonref10.Many: params 1, captured 0, results [tmp 2] -/
noncomputable def L28 : List (Option Nat × List Nat) := [(some 0, [0])]
noncomputable def A28_0 (Q : Value → AH → Prop) (t0 : Value) (h : AH) : Prop := Pt Pr K 28 none (retV Pr 28 Q) 10 [0] [.code (cc 28 2), .code (cc 28 3)] [] [t0] h
theorem b28_0 {h : AH} {Q : Value → AH → Prop} {t0 : Value} (H :
 thn (fillL [(I 0), (I 0), (I 0), (I 0), (I 0), (I 0), (I 0), (I 0), (I 0), (I 0), (I 0)] [(0, 1, (I 2)), (1, 1, (I 3)), (2, 1, (I 2)), (3, 1, (I 2)), (4, 1, (I 2)), (5, 1, (I 0)), (6, 1, (I 1)), (7, 1, (I 3)), (8, 1, (I 1)), (9, 1, (I 2)), (10, 1, (I 0))]) fun l1 =>
 alcS h 1 3 l1 11 11 fun s2 h0 =>
 thn (biI .sub t0 (I 1)) fun v3 =>
 thn (idxS 1 s2 v3) fun v4 =>
 thn (ld1 h0 v4) fun v5 =>
 Q v5 h0
) : A28_0 Q t0 h := by intro e he; cases he; exact bF L28 (by kernel_rfl) H
theorem c28 {h : AH} {Q : Value → AH → Prop} {a0 : Value} (H : A28_0 Q a0 h) : Cl Pr K 28 [a0] h Q :=
  ok_enter (by kernel_rfl) (by kernel_rfl) (Eq.mp (by kernel_rfl) (H (fun i => ([a0] : List Value).getD i undef) rfl))

/-! ### 29 donjon/donjonref03.Decimal: params 1, captured 0, results [tmp 2] -/
noncomputable def L29 : List (Option Nat × List Nat) := [(some 0, [0]), (some 2, [0]), (some 5, [0]), (some 7, [0, 3])]
noncomputable def A29_0 (Q : Value → AH → Prop) (t0 : Value) (h : AH) : Prop := Pt Pr K 29 none (retV Pr 29 Q) 34 [0] [.code (cc 29 2), .code (cc 29 3)] [] [t0] h
noncomputable def A29_1 (Q : Value → AH → Prop) (t0 : Value) (h : AH) : Prop := Pt Pr K 29 none (retV Pr 29 Q) 34 [0] [.code (cc 29 104), .code (cc 29 105), .code (cc 29 53), .code (cc 29 7)] [] [t0] h
noncomputable def A29_2 (Q : Value → AH → Prop) (t0 : Value) (h : AH) : Prop := Pt Pr K 29 none (retV Pr 29 Q) 34 [0] [.code (cc 29 14), .code (cc 29 15)] [] [t0] h
noncomputable def A29_3 (Q : Value → AH → Prop) (t0 t3 : Value) (h : AH) : Prop := Pt Pr K 29 none (retV Pr 29 Q) 34 [0, 3] [.code (cc 29 122), .code (cc 29 31)] [] [t0, t3] h
theorem b29_0 {h : AH} {Q : Value → AH → Prop} {t0 : Value} (H :
 thn (biI .lss t0 (I 0)) fun v0 =>
 Br v0 (
 A29_1 Q t0 h) (
 A29_2 Q t0 h)
) : A29_0 Q t0 h := by intro e he; cases he; exact bF L29 (by kernel_rfl) H
theorem b29_1 {h : AH} {Q : Value → AH → Prop} {t0 : Value} (H :
 thn (biI .gtr t0 (I (-10))) fun v0 =>
 Br v0 (
 thn (unV .neg t0) fun v1 =>
 Cl Pr K 29 [v1] h fun v2 h2 => -- donjon/donjonref03.Decimal
 thn (biT .add (.string ⟨#[45]⟩) v2) fun v3 =>
 Q v3 h2) (
 thn (biI .quo t0 (I 10)) fun v1 =>
 Cl Pr K 29 [v1] h fun v2 h2 => -- donjon/donjonref03.Decimal
 thn (biI .rem t0 (I 10)) fun v3 =>
 thn (unV .neg v3) fun v4 =>
 Cl Pr K 29 [v4] h2 fun v5 h5 => -- donjon/donjonref03.Decimal
 thn (biT .add v2 v5) fun v6 =>
 Q v6 h5)
) : A29_1 Q t0 h := by intro e he; cases he; exact bF L29 (by kernel_rfl) H
theorem b29_2 {h : AH} {Q : Value → AH → Prop} {t0 : Value} (H :
 thn (biI .rem t0 (I 10)) fun v0 =>
 thn (biI .add (I 48) v0) fun v1 =>
 thn (convI .u8 v1) fun v2 =>
 thn (fillL [(.int .u8 0)] [(0, 1, v2)]) fun l4 =>
 alcS h 1 5 l4 1 1 fun s5 h3 =>
 thn (strOf h3 s5) fun v6 =>
 thn (biI .gtr t0 (I 9)) fun v7 =>
 Br v7 (
 A29_3 Q t0 v6 h3) (
 Q v6 h3)
) : A29_2 Q t0 h := by intro e he; cases he; exact bF L29 (by kernel_rfl) H
theorem b29_3 {h : AH} {Q : Value → AH → Prop} {t0 t3 : Value} (H :
 thn (biI .quo t0 (I 10)) fun v0 =>
 Cl Pr K 29 [v0] h fun v1 h1 => -- donjon/donjonref03.Decimal
 thn (biT .add v1 t3) fun v2 =>
 Q v2 h1
) : A29_3 Q t0 t3 h := by intro e he; cases he; exact bF L29 (by kernel_rfl) H
theorem c29 {h : AH} {Q : Value → AH → Prop} {a0 : Value} (H : A29_0 Q a0 h) : Cl Pr K 29 [a0] h Q :=
  ok_enter (by kernel_rfl) (by kernel_rfl) (Eq.mp (by kernel_rfl) (H (fun i => ([a0] : List Value).getD i undef) rfl))

/-! ### 33 internal/stringslite.Cut: params 2, captured 0, results [tmp 4, tmp 5, tmp 6] -/
noncomputable def L33 : List (Option Nat × List Nat) := [(some 0, [0, 1])]
noncomputable def A33_0 (Q : Value → AH → Prop) (t0 t1 : Value) (h : AH) : Prop := Pt Pr K 33 none (retV Pr 33 Q) 23 [0, 1] [.code (cc 33 2), .code (cc 33 3)] [] [t0, t1] h
theorem b33_0 {h : AH} {Q : Value → AH → Prop} {t0 t1 : Value} (H :
 Cl Pr K 39 [t0, t1] h fun v0 h0 => -- internal/stringslite.Index
 thn (biI .geq v0 (I 0)) fun v1 =>
 Br v1 (
 resv h0 12 fun r3 h2 =>
 thn (slT t0 none (some v0)) fun v4 =>
 thn (lenT t1) fun v5 =>
 thn (biI .add v0 v5) fun v6 =>
 thn (slT t0 (some v6) none) fun v7 =>
 Q (.tuple ⟨[v4, v7, (.bool true)]⟩) h2) (
 Q (.tuple ⟨[t0, (.string ⟨#[]⟩), (.bool false)]⟩) h0)
) : A33_0 Q t0 t1 h := by intro e he; cases he; exact bF L33 (by kernel_rfl) H
theorem c33 {h : AH} {Q : Value → AH → Prop} {a0 a1 : Value} (H : A33_0 Q a0 a1 h) : Cl Pr K 33 [a0, a1] h Q :=
  ok_enter (by kernel_rfl) (by kernel_rfl) (Eq.mp (by kernel_rfl) (H (fun i => ([a0, a1] : List Value).getD i undef) rfl))

/-! ### 34 strings.Split: params 2, captured 0, results [tmp 4] -/
noncomputable def L34 : List (Option Nat × List Nat) := [(some 0, [0, 1])]
noncomputable def A34_0 (Q : Value → AH → Prop) (t0 t1 : Value) (h : AH) : Prop := Pt Pr K 34 none (retV Pr 34 Q) 8 [0, 1] [.code (cc 34 2), .code (cc 34 3)] [] [t0, t1] h
theorem b34_0 {h : AH} {Q : Value → AH → Prop} {t0 t1 : Value} (H :
 Cl Pr K 40 [t0, t1, (I 0), (I (-1))] h fun v0 h0 => -- strings.genSplit
 Q v0 h0
) : A34_0 Q t0 t1 h := by intro e he; cases he; exact bF L34 (by kernel_rfl) H
theorem c34 {h : AH} {Q : Value → AH → Prop} {a0 a1 : Value} (H : A34_0 Q a0 a1 h) : Cl Pr K 34 [a0, a1] h Q :=
  ok_enter (by kernel_rfl) (by kernel_rfl) (Eq.mp (by kernel_rfl) (H (fun i => ([a0, a1] : List Value).getD i undef) rfl))

/-! ### 35 donjon/isa.opOf: params 1, captured 0, results [tmp 2] -/
noncomputable def L35 : List (Option Nat × List Nat) := [(some 0, [0]), (some 2, [0, 4]), (some 3, [0, 4]), (some 6, [0, 4])]
noncomputable def A35_0 (Q : Value → AH → Prop) (t0 : Value) (h : AH) : Prop := Pt Pr K 35 none (retV Pr 35 Q) 19 [0] [.code (cc 35 2), .code (cc 35 3)] [] [t0] h
noncomputable def A35_1 (Q : Value → AH → Prop) (t0 t4 : Value) (h : AH) : Prop := Pt Pr K 35 none (retV Pr 35 Q) 19 [0, 4] [.code (cc 35 104), .code (cc 35 105), .inLoop (cc 35 52), .inBlock 0, .code (cc 35 7)] [] [t0, t4] h
noncomputable def A35_2 (Q : Value → AH → Prop) (t0 t4 : Value) (h : AH) : Prop := Pt Pr K 35 none (retV Pr 35 Q) 19 [0, 4] [.code (cc 35 1688), .code (cc 35 1689), .inBlock 1, .code (cc 35 423), .inLoop (cc 35 52), .inBlock 0, .code (cc 35 7)] [] [t0, t4] h
noncomputable def A35_3 (Q : Value → AH → Prop) (t0 t4 : Value) (h : AH) : Prop := Pt Pr K 35 none (retV Pr 35 Q) 19 [0, 4] [.code (cc 35 423), .inLoop (cc 35 52), .inBlock 0, .code (cc 35 7)] [] [t0, t4] h
theorem b35_0 {h : AH} {Q : Value → AH → Prop} {t0 : Value} (H :
 A35_1 Q t0 (I 0) h
) : A35_0 Q t0 h := by intro e he; cases he; exact bF L35 (by kernel_rfl) H
theorem b35_1 {h : AH} {Q : Value → AH → Prop} {t0 t4 : Value} (H :
 thn (biI .lss t4 (I 12)) fun v0 =>
 Br v0 (
 A35_2 Q t0 t4 h) (
 Q (I 0) h)
) : A35_1 Q t0 t4 h := by intro e he; cases he; exact bF L35 (by kernel_rfl) H
theorem b35_2 {h : AH} {Q : Value → AH → Prop} {t0 t4 : Value} (H :
 Cl Pr K 22 [t4] h fun v0 h0 => -- donjon/isa.is
 Br v0 (
 thn (idxA 12 4 (.pointer (some ⟨0, 0, none⟩)) t4) fun v1 =>
 thn (padd 0 v1) fun v2 =>
 thn (ld1 h0 v2) fun v3 =>
 thn (biT .eql v3 t0) fun v4 =>
 Br v4 (
 Q t4 h0) (
 A35_3 Q t0 t4 h0)) (
 thn (biI .add t4 (I 1)) fun v1 =>
 A35_1 Q t0 v1 h0)
) : A35_2 Q t0 t4 h := by intro e he; cases he; exact bF L35 (by kernel_rfl) H
theorem b35_3 {h : AH} {Q : Value → AH → Prop} {t0 t4 : Value} (H :
 thn (biI .add t4 (I 1)) fun v0 =>
 A35_1 Q t0 v0 h
) : A35_3 Q t0 t4 h := by intro e he; cases he; exact bF L35 (by kernel_rfl) H
theorem c35 {h : AH} {Q : Value → AH → Prop} {a0 : Value} (H : A35_0 Q a0 h) : Cl Pr K 35 [a0] h Q :=
  ok_enter (by kernel_rfl) (by kernel_rfl) (Eq.mp (by kernel_rfl) (H (fun i => ([a0] : List Value).getD i undef) rfl))

/-! ### 38 donjon/donjonref10.Most: params 3, captured 0, results [tmp 6, tmp 7, tmp 8] -/
noncomputable def L38 : List (Option Nat × List Nat) := [(some 0, [0, 1, 2]), (some 4, [0, 1, 2]), (some 6, [0, 1, 2]), (some 7, [1]), (some 10, [0, 1, 2])]
noncomputable def A38_0 (Q : Value → AH → Prop) (t0 t1 t2 : Value) (h : AH) : Prop := Pt Pr K 38 none (retV Pr 38 Q) 43 [0, 1, 2] [.code (cc 38 2), .code (cc 38 3)] [] [t0, t1, t2] h
noncomputable def A38_1 (Q : Value → AH → Prop) (t0 t1 t2 : Value) (h : AH) : Prop := Pt Pr K 38 none (retV Pr 38 Q) 43 [0, 1, 2] [.code (cc 38 60), .code (cc 38 61), .code (cc 38 31)] [] [t0, t1, t2] h
noncomputable def A38_2 (Q : Value → AH → Prop) (t0 t1 t2 : Value) (h : AH) : Prop := Pt Pr K 38 none (retV Pr 38 Q) 43 [0, 1, 2] [.code (cc 38 124), .code (cc 38 125), .code (cc 38 63)] [] [t0, t1, t2] h
noncomputable def A38_3 (Q : Value → AH → Prop) (t1 : Value) (h : AH) : Prop := Pt Pr K 38 none (retV Pr 38 Q) 43 [1] [.code (cc 38 1000), .code (cc 38 1001), .code (cc 38 501), .code (cc 38 63)] [] [t1] h
noncomputable def A38_4 (Q : Value → AH → Prop) (t0 t1 t2 : Value) (h : AH) : Prop := Pt Pr K 38 none (retV Pr 38 Q) 43 [0, 1, 2] [.code (cc 38 252), .code (cc 38 253), .code (cc 38 127)] [] [t0, t1, t2] h
theorem b38_0 {h : AH} {Q : Value → AH → Prop} {t0 t1 t2 : Value} (H :
 thn (fillL [(I 0), (I 0), (I 0), (I 0), (I 0), (I 0), (I 0), (I 0), (I 0), (I 0), (I 0)] [(0, 1, (I 1)), (1, 1, (I 3)), (2, 1, (I 2)), (3, 1, (I 2)), (4, 1, (I 2)), (5, 1, (I 0)), (6, 1, (I 0)), (7, 1, (I 0)), (8, 1, (I 0)), (9, 1, (I 1)), (10, 1, (I 0))]) fun l1 =>
 alcS h 1 3 l1 11 11 fun s2 h0 =>
 thn (biI .sub t0 (I 1)) fun v3 =>
 thn (idxS 1 s2 v3) fun v4 =>
 thn (ld1 h0 v4) fun v5 =>
 thn (biI .lss t1 v5) fun v6 =>
 Br v6 (
 Q (.tuple ⟨[(I 0), (I 3), (.bool true)]⟩) h0) (
 A38_1 Q t0 t1 t2 h0)
) : A38_0 Q t0 t1 t2 h := by intro e he; cases he; exact bF L38 (by kernel_rfl) H
theorem b38_1 {h : AH} {Q : Value → AH → Prop} {t0 t1 t2 : Value} (H :
 thn (biI .eql t0 (I 7)) fun v0 =>
 Br v0 (
 thn (biI .eql t1 (I 0)) fun v1 =>
 Br v1 (
 Q (.tuple ⟨[(I 1), (I 3), (.bool true)]⟩) h) (
 A38_2 Q t0 t1 t2 h)) (
 thn (biI .eql t0 (I 8)) fun v1 =>
 Br v1 (
 A38_3 Q t1 h) (
 A38_4 Q t0 t1 t2 h))
) : A38_1 Q t0 t1 t2 h := by intro e he; cases he; exact bF L38 (by kernel_rfl) H
theorem b38_2 {h : AH} {Q : Value → AH → Prop} {t0 t1 t2 : Value} (H :
 thn (biI .eql t0 (I 8)) fun v0 =>
 Br v0 (
 A38_3 Q t1 h) (
 A38_4 Q t0 t1 t2 h)
) : A38_2 Q t0 t1 t2 h := by intro e he; cases he; exact bF L38 (by kernel_rfl) H
theorem b38_3 {h : AH} {Q : Value → AH → Prop} {t1 : Value} (H :
 thn (biI .eql t1 (I 0)) fun v0 =>
 Br v0 (
 Q (.tuple ⟨[(I 1), (I 4), (.bool true)]⟩) h) (
 Q (.tuple ⟨[(I 0), (I 3), (.bool true)]⟩) h)
) : A38_3 Q t1 h := by intro e he; cases he; exact bF L38 (by kernel_rfl) H
theorem b38_4 {h : AH} {Q : Value → AH → Prop} {t0 t1 t2 : Value} (H :
 thn (biI .eql t0 (I 9)) fun v0 =>
 Br v0 (
 thn (biI .eql t1 (I 0)) fun v1 =>
 Br v1 (
 Q (.tuple ⟨[(I 0), t2, (.bool true)]⟩) h) (
 thn (biI .eql t0 (I 10)) fun v2 =>
 Br v2 (
 thn (biI .eql t1 (I 1)) fun v3 =>
 Br v3 (
 Q (.tuple ⟨[(I 0), t2, (.bool true)]⟩) h) (
 Q (.tuple ⟨[(I 0), (I 0), (.bool false)]⟩) h)) (
 Q (.tuple ⟨[(I 0), (I 0), (.bool false)]⟩) h))) (
 thn (biI .eql t0 (I 10)) fun v1 =>
 Br v1 (
 thn (biI .eql t1 (I 1)) fun v2 =>
 Br v2 (
 Q (.tuple ⟨[(I 0), t2, (.bool true)]⟩) h) (
 Q (.tuple ⟨[(I 0), (I 0), (.bool false)]⟩) h)) (
 Q (.tuple ⟨[(I 0), (I 0), (.bool false)]⟩) h))
) : A38_4 Q t0 t1 t2 h := by intro e he; cases he; exact bF L38 (by kernel_rfl) H
theorem c38 {h : AH} {Q : Value → AH → Prop} {a0 a1 a2 : Value} (H : A38_0 Q a0 a1 a2 h) : Cl Pr K 38 [a0, a1, a2] h Q :=
  ok_enter (by kernel_rfl) (by kernel_rfl) (Eq.mp (by kernel_rfl) (H (fun i => ([a0, a1, a2] : List Value).getD i undef) rfl))

/-! ### 40 strings.genSplit: params 4, captured 0, results [tmp 8] -/
noncomputable def L40 : List (Option Nat × List Nat) := [(some 0, [0, 1, 2, 3]), (some 3, [0, 1, 2, 3]), (some 5, [0, 1, 2, 3]), (some 6, [0, 1, 2]), (some 7, [0, 1, 2, 3]), (some 11, [0, 1, 2, 3, 9, 10]), (some 12, [0, 1, 2, 3, 9, 10]), (some 17, [0, 9, 10]), (some 14, [0, 1, 2, 3, 9, 10, 11])]
noncomputable def A40_0 (Q : Value → AH → Prop) (t0 t1 t2 t3 : Value) (h : AH) : Prop := Pt Pr K 40 none (retV Pr 40 Q) 66 [0, 1, 2, 3] [.code (cc 40 2), .code (cc 40 3)] [] [t0, t1, t2, t3] h
noncomputable def A40_1 (Q : Value → AH → Prop) (t0 t1 t2 t3 : Value) (h : AH) : Prop := Pt Pr K 40 none (retV Pr 40 Q) 66 [0, 1, 2, 3] [.code (cc 40 28), .code (cc 40 29), .code (cc 40 15)] [] [t0, t1, t2, t3] h
noncomputable def A40_2 (Q : Value → AH → Prop) (t0 t1 t2 t3 : Value) (h : AH) : Prop := Pt Pr K 40 none (retV Pr 40 Q) 66 [0, 1, 2, 3] [.code (cc 40 60), .code (cc 40 61), .code (cc 40 31)] [] [t0, t1, t2, t3] h
noncomputable def A40_3 (Q : Value → AH → Prop) (t0 t1 t2 : Value) (h : AH) : Prop := Pt Pr K 40 none (retV Pr 40 Q) 66 [0, 1, 2] [.code (cc 40 122), .code (cc 40 31)] [] [t0, t1, t2] h
noncomputable def A40_4 (Q : Value → AH → Prop) (t0 t1 t2 t3 : Value) (h : AH) : Prop := Pt Pr K 40 none (retV Pr 40 Q) 66 [0, 1, 2, 3] [.code (cc 40 62), .code (cc 40 63)] [] [t0, t1, t2, t3] h
noncomputable def A40_5 (Q : Value → AH → Prop) (t0 t1 t2 t3 t9 t10 : Value) (h : AH) : Prop := Pt Pr K 40 none (retV Pr 40 Q) 66 [0, 1, 2, 3, 9, 10] [.code (cc 40 16352), .code (cc 40 16353), .code (cc 40 8177), .inLoop (cc 40 4088), .inBlock 0, .code (cc 40 1023)] [] [t0, t1, t2, t3, t9, t10] h
noncomputable def A40_6 (Q : Value → AH → Prop) (t0 t1 t2 t3 t9 t10 : Value) (h : AH) : Prop := Pt Pr K 40 none (retV Pr 40 Q) 66 [0, 1, 2, 3, 9, 10] [.code (cc 40 32708), .code (cc 40 32709), .inBlock 1, .inLoop (cc 40 4088), .inBlock 0, .code (cc 40 1023)] [] [t0, t1, t2, t3, t9, t10] h
noncomputable def A40_7 (Q : Value → AH → Prop) (t0 t9 t10 : Value) (h : AH) : Prop := Pt Pr K 40 none (retV Pr 40 Q) 66 [0, 9, 10] [.code (cc 40 2046), .code (cc 40 2047)] [] [t0, t9, t10] h
noncomputable def A40_8 (Q : Value → AH → Prop) (t0 t1 t2 t3 t9 t10 t11 : Value) (h : AH) : Prop := Pt Pr K 40 none (retV Pr 40 Q) 66 [0, 1, 2, 3, 9, 10, 11] [.code (cc 40 130838), .code (cc 40 130839), .inBlock 1, .inLoop (cc 40 4088), .inBlock 0, .code (cc 40 1023)] [] [t0, t1, t2, t3, t9, t10, t11] h
theorem b40_0 {h : AH} {Q : Value → AH → Prop} {t0 t1 t2 t3 : Value} (H :
 thn (biI .eql t3 (I 0)) fun v0 =>
 Br v0 (
 Q (.slice none 0 0) h) (
 A40_1 Q t0 t1 t2 t3 h)
) : A40_0 Q t0 t1 t2 t3 h := by intro e he; cases he; exact bF L40 (by kernel_rfl) H
theorem b40_1 {h : AH} {Q : Value → AH → Prop} {t0 t1 t2 t3 : Value} (H :
 thn (biT .eql t1 (.string ⟨#[]⟩)) fun v0 =>
 Br v0 (
 Cl Pr K 51 [t0, t3] h fun v1 h1 => -- strings.explode
 Q v1 h1) (
 A40_2 Q t0 t1 t2 t3 h)
) : A40_1 Q t0 t1 t2 t3 h := by intro e he; cases he; exact bF L40 (by kernel_rfl) H
theorem b40_2 {h : AH} {Q : Value → AH → Prop} {t0 t1 t2 t3 : Value} (H :
 thn (biI .lss t3 (I 0)) fun v0 =>
 Br v0 (
 A40_3 Q t0 t1 t2 h) (
 A40_4 Q t0 t1 t2 t3 h)
) : A40_2 Q t0 t1 t2 t3 h := by intro e he; cases he; exact bF L40 (by kernel_rfl) H
theorem b40_3 {h : AH} {Q : Value → AH → Prop} {t0 t1 t2 : Value} (H :
 Cl Pr K 19 [t0, t1] h fun v0 h0 => -- strings.Count
 thn (biI .add v0 (I 1)) fun v1 =>
 thn (lenT t0) fun v2 =>
 thn (biI .add v2 (I 1)) fun v3 =>
 thn (minV v1 v3) fun v4 =>
 thn (mkS 16 v4 v4) fun n6 =>
 alcS h0 1 9 (zerosA [(.string ⟨#[]⟩)] n6.2) n6.1 n6.2 fun s7 h5 =>
 thn (biI .sub v4 (I 1)) fun v8 =>
 A40_5 Q t0 t1 t2 v8 s7 (I 0) h5
) : A40_3 Q t0 t1 t2 h := by intro e he; cases he; exact bF L40 (by kernel_rfl) H
theorem b40_4 {h : AH} {Q : Value → AH → Prop} {t0 t1 t2 t3 : Value} (H :
 thn (lenT t0) fun v0 =>
 thn (biI .add v0 (I 1)) fun v1 =>
 thn (minV t3 v1) fun v2 =>
 thn (mkS 16 v2 v2) fun n4 =>
 alcS h 1 9 (zerosA [(.string ⟨#[]⟩)] n4.2) n4.1 n4.2 fun s5 h3 =>
 thn (biI .sub v2 (I 1)) fun v6 =>
 A40_5 Q t0 t1 t2 v6 s5 (I 0) h3
) : A40_4 Q t0 t1 t2 t3 h := by intro e he; cases he; exact bF L40 (by kernel_rfl) H
theorem b40_5 {h : AH} {Q : Value → AH → Prop} {t0 t1 t2 t3 t9 t10 : Value} (H :
 thn (biI .lss t10 t3) fun v0 =>
 Br v0 (
 A40_6 Q t0 t1 t2 t3 t9 t10 h) (
 A40_7 Q t0 t9 t10 h)
) : A40_5 Q t0 t1 t2 t3 t9 t10 h := by intro e he; cases he; exact bF L40 (by kernel_rfl) H
theorem b40_6 {h : AH} {Q : Value → AH → Prop} {t0 t1 t2 t3 t9 t10 : Value} (H :
 Cl Pr K 32 [t0, t1] h fun v0 h0 => -- strings.Index
 thn (biI .lss v0 (I 0)) fun v1 =>
 Br v1 (
 A40_7 Q t0 t9 t10 h0) (
 A40_8 Q t0 t1 t2 t3 t9 t10 v0 h0)
) : A40_6 Q t0 t1 t2 t3 t9 t10 h := by intro e he; cases he; exact bF L40 (by kernel_rfl) H
theorem b40_7 {h : AH} {Q : Value → AH → Prop} {t0 t9 t10 : Value} (H :
 thn (idxS 1 t9 t10) fun v0 =>
 thn (stV h 1 v0 t0) fun h1 =>
 thn (biI .add t10 (I 1)) fun v2 =>
 thn (slS 1 h1 t9 none (some v2) none) fun v3 =>
 Q v3 h1
) : A40_7 Q t0 t9 t10 h := by intro e he; cases he; exact bF L40 (by kernel_rfl) H
theorem b40_8 {h : AH} {Q : Value → AH → Prop} {t0 t1 t2 t3 t9 t10 t11 : Value} (H :
 thn (biI .add t11 t2) fun v0 =>
 thn (slT t0 none (some v0)) fun v1 =>
 thn (idxS 1 t9 t10) fun v2 =>
 thn (stV h 1 v2 v1) fun h3 =>
 thn (lenT t1) fun v4 =>
 thn (biI .add t11 v4) fun v5 =>
 thn (slT t0 (some v5) none) fun v6 =>
 thn (biI .add t10 (I 1)) fun v7 =>
 A40_5 Q v6 t1 t2 t3 t9 v7 h3
) : A40_8 Q t0 t1 t2 t3 t9 t10 t11 h := by intro e he; cases he; exact bF L40 (by kernel_rfl) H
theorem c40 {h : AH} {Q : Value → AH → Prop} {a0 a1 a2 a3 : Value} (H : A40_0 Q a0 a1 a2 a3 h) : Cl Pr K 40 [a0, a1, a2, a3] h Q :=
  ok_enter (by kernel_rfl) (by kernel_rfl) (Eq.mp (by kernel_rfl) (H (fun i => ([a0, a1, a2, a3] : List Value).getD i undef) rfl))

end Go.Proofs.YtngdhjebbhjokaaDoor
end
