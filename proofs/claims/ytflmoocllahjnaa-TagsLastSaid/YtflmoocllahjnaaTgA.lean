/- A part of the proof of the statement that this folder claims, with no condition: definitions and lemmas on which the last text leans. -/
import Derived.Test.YtflmoocllahjnaaRows
import Derived.Test.YtflmoocllahjnaaAb27
namespace Go.Proofs.Ytflmoocllahjnaa
open Go Go.Ab
set_option linter.unusedVariables false
set_option maxRecDepth 100000
noncomputable abbrev Pr : Program := Try.prog
def K : FuncId → List Value → Option Value := fun f args => if f = 5 then (if args.isEmpty then some (.bool true) else none) else none
/-! ### 3 donjon/donjonlaw07.TagsLast: params 3, captured 0, results [tmp 6] -/
noncomputable def L3 : List (Option Nat × List Nat) := [(some 0, [0, 1, 2]), (some 2, []), (some 3, [1, 2, 3]), (some 5, []), (some 6, [1, 2, 3, 7]), (some 8, [1, 2, 3, 7, 9, 10]), (some 10, [1, 2, 3, 7, 9, 10]), (some 12, [1, 2, 3, 7, 9, 10, 11]), (some 14, []), (some 15, [1, 2, 3, 7, 9, 10, 11, 12, 13]), (some 16, [1, 2, 3, 7, 9, 10, 11, 12]), (some 17, [1, 2, 3, 7, 9, 10, 11]), (some 18, []), (some 19, [1, 2, 3, 7, 9, 10, 11]), (some 20, [1, 2, 3, 7, 9, 10, 11]), (some 27, [1, 2, 3, 7, 9, 10]), (some 22, [1, 2, 3, 7, 9, 10, 11, 15, 16]), (some 29, []), (some 9, [1, 2, 3, 7, 9, 10]), (some 24, [1, 2, 3, 7, 9, 10, 11, 15, 16]), (some 26, [1, 2, 3, 7, 9, 10, 11])]
noncomputable def k3_0 : List Item := [.code (cd Pr 3 [])]
noncomputable def A3_0 (Q : Value → AH → Prop) (t0 t1 t2 : Value) (h : AH) : Prop := Pt Pr K 3 none (retV Pr 3 Q) 151 [0, 1, 2] k3_0 [] [t0, t1, t2] h
noncomputable def k3_1 : List Item := [.code (cd Pr 3 [1, 0, 1, 0]), .code (cd Pr 3 [1, 1])]
noncomputable def A3_1 (Q : Value → AH → Prop) (h : AH) : Prop := Pt Pr K 3 none (retV Pr 3 Q) 151 [] k3_1 [] [] h
noncomputable def k3_2 : List Item := [.code (cd Pr 3 [1, 0, 1, 1]), .code (cd Pr 3 [1, 1])]
noncomputable def A3_2 (Q : Value → AH → Prop) (t1 t2 t3 : Value) (h : AH) : Prop := Pt Pr K 3 none (retV Pr 3 Q) 151 [1, 2, 3] k3_2 [] [t1, t2, t3] h
noncomputable def k3_3 : List Item := [.code (cd Pr 3 [1, 1, 1, 0, 1, 0]), .code (cd Pr 3 [1, 1, 1, 1])]
noncomputable def A3_3 (Q : Value → AH → Prop) (h : AH) : Prop := Pt Pr K 3 none (retV Pr 3 Q) 151 [] k3_3 [] [] h
noncomputable def k3_4 : List Item := [.code (cd Pr 3 [1, 1, 1, 0, 1, 1]), .code (cd Pr 3 [1, 1, 1, 1])]
noncomputable def A3_4 (Q : Value → AH → Prop) (t1 t2 t3 t7 : Value) (h : AH) : Prop := Pt Pr K 3 none (retV Pr 3 Q) 151 [1, 2, 3, 7] k3_4 [] [t1, t2, t3, t7] h
noncomputable def k3_5 : List Item := [.code (cd Pr 3 [1, 1, 1, 1, 1, 0, 1, 0, 0]), .inLoop (cd Pr 3 [1, 1, 1, 1, 1, 0, 1, 0, 0]), .inBlock 0, .code (cd Pr 3 [1, 1, 1, 1, 1, 1])]
noncomputable def A3_5 (Q : Value → AH → Prop) (t1 t2 t3 t7 t9 t10 : Value) (h : AH) : Prop := Pt Pr K 3 none (retV Pr 3 Q) 151 [1, 2, 3, 7, 9, 10] k3_5 [] [t1, t2, t3, t7, t9, t10] h
noncomputable def k3_6 : List Item := [.code (cd Pr 3 [1, 1, 1, 1, 1, 0, 1, 0, 0, 0, 1, 0]), .code (cd Pr 3 [1, 1, 1, 1, 1, 0, 1, 0, 0, 1]), .inLoop (cd Pr 3 [1, 1, 1, 1, 1, 0, 1, 0, 0]), .inBlock 0, .code (cd Pr 3 [1, 1, 1, 1, 1, 1])]
noncomputable def A3_6 (Q : Value → AH → Prop) (t1 t2 t3 t7 t9 t10 : Value) (h : AH) : Prop := Pt Pr K 3 none (retV Pr 3 Q) 151 [1, 2, 3, 7, 9, 10] k3_6 [] [t1, t2, t3, t7, t9, t10] h
noncomputable def k3_7 : List Item := [.code (cd Pr 3 [1, 1, 1, 1, 1, 0, 1, 0, 0, 0, 1, 1]), .code (cd Pr 3 [1, 1, 1, 1, 1, 0, 1, 0, 0, 1]), .inLoop (cd Pr 3 [1, 1, 1, 1, 1, 0, 1, 0, 0]), .inBlock 0, .code (cd Pr 3 [1, 1, 1, 1, 1, 1])]
noncomputable def A3_7 (Q : Value → AH → Prop) (t1 t2 t3 t7 t9 t10 : Value) (h : AH) : Prop := Pt Pr K 3 none (retV Pr 3 Q) 151 [1, 2, 3, 7, 9, 10] k3_7 [] [t1, t2, t3, t7, t9, t10] h
noncomputable def k3_8 : List Item := [.code (cd Pr 3 [1, 1, 1, 1, 1, 0, 1, 0, 0, 1, 0, 0, 1, 0, 1, 0]), .code (cd Pr 3 [1, 1, 1, 1, 1, 0, 1, 0, 0, 1, 0, 0, 1, 1]), .inBlock 1, .code (cd Pr 3 [1, 1, 1, 1, 1, 0, 1, 0, 0, 1, 1]), .inLoop (cd Pr 3 [1, 1, 1, 1, 1, 0, 1, 0, 0]), .inBlock 0, .code (cd Pr 3 [1, 1, 1, 1, 1, 1])]
noncomputable def A3_8 (Q : Value → AH → Prop) (t1 t2 t3 t7 t9 t10 t11 : Value) (h : AH) : Prop := Pt Pr K 3 none (retV Pr 3 Q) 151 [1, 2, 3, 7, 9, 10, 11] k3_8 [] [t1, t2, t3, t7, t9, t10, t11] h
noncomputable def k3_9 : List Item := [.code (cd Pr 3 [1, 1, 1, 1, 1, 0, 1, 0, 0, 1, 0, 0, 1, 0, 1, 1]), .code (cd Pr 3 [1, 1, 1, 1, 1, 0, 1, 0, 0, 1, 0, 0, 1, 1]), .inBlock 1, .code (cd Pr 3 [1, 1, 1, 1, 1, 0, 1, 0, 0, 1, 1]), .inLoop (cd Pr 3 [1, 1, 1, 1, 1, 0, 1, 0, 0]), .inBlock 0, .code (cd Pr 3 [1, 1, 1, 1, 1, 1])]
noncomputable def A3_9 (Q : Value → AH → Prop) (t1 t2 t3 t7 t9 t10 t11 : Value) (h : AH) : Prop := Pt Pr K 3 none (retV Pr 3 Q) 151 [1, 2, 3, 7, 9, 10, 11] k3_9 [] [t1, t2, t3, t7, t9, t10, t11] h
noncomputable def k3_10 : List Item := [.code (cd Pr 3 [1, 1, 1, 1, 1, 0, 1, 0, 0, 1, 0, 0, 1, 1, 1, 0, 1, 0]), .code (cd Pr 3 [1, 1, 1, 1, 1, 0, 1, 0, 0, 1, 0, 0, 1, 1, 1, 1]), .inBlock 1, .code (cd Pr 3 [1, 1, 1, 1, 1, 0, 1, 0, 0, 1, 1]), .inLoop (cd Pr 3 [1, 1, 1, 1, 1, 0, 1, 0, 0]), .inBlock 0, .code (cd Pr 3 [1, 1, 1, 1, 1, 1])]
noncomputable def A3_10 (Q : Value → AH → Prop) (h : AH) : Prop := Pt Pr K 3 none (retV Pr 3 Q) 151 [] k3_10 [] [] h
noncomputable def k3_11 : List Item := [.code (cd Pr 3 [1, 1, 1, 1, 1, 0, 1, 0, 0, 1, 0, 0, 1, 1, 1, 0, 1, 1]), .code (cd Pr 3 [1, 1, 1, 1, 1, 0, 1, 0, 0, 1, 0, 0, 1, 1, 1, 1]), .inBlock 1, .code (cd Pr 3 [1, 1, 1, 1, 1, 0, 1, 0, 0, 1, 1]), .inLoop (cd Pr 3 [1, 1, 1, 1, 1, 0, 1, 0, 0]), .inBlock 0, .code (cd Pr 3 [1, 1, 1, 1, 1, 1])]
noncomputable def A3_11 (Q : Value → AH → Prop) (t1 t2 t3 t7 t9 t10 t11 t12 t13 : Value) (h : AH) : Prop := Pt Pr K 3 none (retV Pr 3 Q) 151 [1, 2, 3, 7, 9, 10, 11, 12, 13] k3_11 [] [t1, t2, t3, t7, t9, t10, t11, t12, t13] h
noncomputable def k3_12 : List Item := [.code (cd Pr 3 [1, 1, 1, 1, 1, 0, 1, 0, 0, 1, 0, 0, 1, 1, 1, 1, 0, 1, 0]), .code (cd Pr 3 [1, 1, 1, 1, 1, 0, 1, 0, 0, 1, 0, 0, 1, 1, 1, 1, 1]), .inBlock 1, .code (cd Pr 3 [1, 1, 1, 1, 1, 0, 1, 0, 0, 1, 1]), .inLoop (cd Pr 3 [1, 1, 1, 1, 1, 0, 1, 0, 0]), .inBlock 0, .code (cd Pr 3 [1, 1, 1, 1, 1, 1])]
noncomputable def A3_12 (Q : Value → AH → Prop) (t1 t2 t3 t7 t9 t10 t11 t12 : Value) (h : AH) : Prop := Pt Pr K 3 none (retV Pr 3 Q) 151 [1, 2, 3, 7, 9, 10, 11, 12] k3_12 [] [t1, t2, t3, t7, t9, t10, t11, t12] h
noncomputable def k3_13 : List Item := [.code (cd Pr 3 [1, 1, 1, 1, 1, 0, 1, 0, 0, 1, 0, 0, 1, 1, 1, 1, 0, 1, 1]), .code (cd Pr 3 [1, 1, 1, 1, 1, 0, 1, 0, 0, 1, 0, 0, 1, 1, 1, 1, 1]), .inBlock 1, .code (cd Pr 3 [1, 1, 1, 1, 1, 0, 1, 0, 0, 1, 1]), .inLoop (cd Pr 3 [1, 1, 1, 1, 1, 0, 1, 0, 0]), .inBlock 0, .code (cd Pr 3 [1, 1, 1, 1, 1, 1])]
noncomputable def A3_13 (Q : Value → AH → Prop) (t1 t2 t3 t7 t9 t10 t11 : Value) (h : AH) : Prop := Pt Pr K 3 none (retV Pr 3 Q) 151 [1, 2, 3, 7, 9, 10, 11] k3_13 [] [t1, t2, t3, t7, t9, t10, t11] h
noncomputable def k3_14 : List Item := [.code (cd Pr 3 [1, 1, 1, 1, 1, 0, 1, 0, 0, 1, 0, 0, 1, 1, 1, 1, 1, 0, 1, 0]), .code (cd Pr 3 [1, 1, 1, 1, 1, 0, 1, 0, 0, 1, 0, 0, 1, 1, 1, 1, 1, 1]), .inBlock 1, .code (cd Pr 3 [1, 1, 1, 1, 1, 0, 1, 0, 0, 1, 1]), .inLoop (cd Pr 3 [1, 1, 1, 1, 1, 0, 1, 0, 0]), .inBlock 0, .code (cd Pr 3 [1, 1, 1, 1, 1, 1])]
noncomputable def A3_14 (Q : Value → AH → Prop) (h : AH) : Prop := Pt Pr K 3 none (retV Pr 3 Q) 151 [] k3_14 [] [] h
noncomputable def k3_15 : List Item := [.code (cd Pr 3 [1, 1, 1, 1, 1, 0, 1, 0, 0, 1, 0, 0, 1, 1, 1, 1, 1, 0, 1, 1]), .code (cd Pr 3 [1, 1, 1, 1, 1, 0, 1, 0, 0, 1, 0, 0, 1, 1, 1, 1, 1, 1]), .inBlock 1, .code (cd Pr 3 [1, 1, 1, 1, 1, 0, 1, 0, 0, 1, 1]), .inLoop (cd Pr 3 [1, 1, 1, 1, 1, 0, 1, 0, 0]), .inBlock 0, .code (cd Pr 3 [1, 1, 1, 1, 1, 1])]
noncomputable def A3_15 (Q : Value → AH → Prop) (t1 t2 t3 t7 t9 t10 t11 : Value) (h : AH) : Prop := Pt Pr K 3 none (retV Pr 3 Q) 151 [1, 2, 3, 7, 9, 10, 11] k3_15 [] [t1, t2, t3, t7, t9, t10, t11] h
noncomputable def k3_16 : List Item := [.code (cd Pr 3 [1, 1, 1, 1, 1, 0, 1, 0, 0, 1, 0, 0, 1, 1, 1, 1, 1, 1, 0, 1, 0]), .code (cd Pr 3 [1, 1, 1, 1, 1, 0, 1, 0, 0, 1, 0, 0, 1, 1, 1, 1, 1, 1, 1]), .inBlock 1, .code (cd Pr 3 [1, 1, 1, 1, 1, 0, 1, 0, 0, 1, 1]), .inLoop (cd Pr 3 [1, 1, 1, 1, 1, 0, 1, 0, 0]), .inBlock 0, .code (cd Pr 3 [1, 1, 1, 1, 1, 1])]
noncomputable def A3_16 (Q : Value → AH → Prop) (t1 t2 t3 t7 t9 t10 t11 : Value) (h : AH) : Prop := Pt Pr K 3 none (retV Pr 3 Q) 151 [1, 2, 3, 7, 9, 10, 11] k3_16 [] [t1, t2, t3, t7, t9, t10, t11] h
noncomputable def k3_17 : List Item := [.code (cd Pr 3 [1, 1, 1, 1, 1, 0, 1, 0, 0, 1, 0, 0, 1, 1, 1, 1, 1, 1, 0, 1, 1]), .code (cd Pr 3 [1, 1, 1, 1, 1, 0, 1, 0, 0, 1, 0, 0, 1, 1, 1, 1, 1, 1, 1]), .inBlock 1, .code (cd Pr 3 [1, 1, 1, 1, 1, 0, 1, 0, 0, 1, 1]), .inLoop (cd Pr 3 [1, 1, 1, 1, 1, 0, 1, 0, 0]), .inBlock 0, .code (cd Pr 3 [1, 1, 1, 1, 1, 1])]
noncomputable def A3_17 (Q : Value → AH → Prop) (t1 t2 t3 t7 t9 t10 : Value) (h : AH) : Prop := Pt Pr K 3 none (retV Pr 3 Q) 151 [1, 2, 3, 7, 9, 10] k3_17 [] [t1, t2, t3, t7, t9, t10] h
noncomputable def k3_18 : List Item := [.code (cd Pr 3 [1, 1, 1, 1, 1, 0, 1, 0, 0, 1, 0, 0, 1, 1, 1, 1, 1, 1, 0, 1, 0, 1, 0, 1, 0, 0]), .inLoop (cd Pr 3 [1, 1, 1, 1, 1, 0, 1, 0, 0, 1, 0, 0, 1, 1, 1, 1, 1, 1, 0, 1, 0, 1, 0, 1, 0, 0]), .inBlock 2, .code (cd Pr 3 [1, 1, 1, 1, 1, 0, 1, 0, 0, 1, 0, 0, 1, 1, 1, 1, 1, 1, 0, 1, 0, 1, 1]), .code (cd Pr 3 [1, 1, 1, 1, 1, 0, 1, 0, 0, 1, 0, 0, 1, 1, 1, 1, 1, 1, 1]), .inBlock 1, .code (cd Pr 3 [1, 1, 1, 1, 1, 0, 1, 0, 0, 1, 1]), .inLoop (cd Pr 3 [1, 1, 1, 1, 1, 0, 1, 0, 0]), .inBlock 0, .code (cd Pr 3 [1, 1, 1, 1, 1, 1])]
noncomputable def A3_18 (Q : Value → AH → Prop) (t1 t2 t3 t7 t9 t10 t11 t15 t16 : Value) (h : AH) : Prop := Pt Pr K 3 none (retV Pr 3 Q) 151 [1, 2, 3, 7, 9, 10, 11, 15, 16] k3_18 [] [t1, t2, t3, t7, t9, t10, t11, t15, t16] h
noncomputable def k3_19 : List Item := [.code (cd Pr 3 [1, 1, 1, 1, 1, 0, 1, 0, 0, 1, 0, 0, 1, 1, 1, 1, 1, 1, 1, 1, 1, 0]), .inBlock 1, .code (cd Pr 3 [1, 1, 1, 1, 1, 0, 1, 0, 0, 1, 1]), .inLoop (cd Pr 3 [1, 1, 1, 1, 1, 0, 1, 0, 0]), .inBlock 0, .code (cd Pr 3 [1, 1, 1, 1, 1, 1])]
noncomputable def A3_19 (Q : Value → AH → Prop) (h : AH) : Prop := Pt Pr K 3 none (retV Pr 3 Q) 151 [] k3_19 [] [] h
noncomputable def k3_20 : List Item := [.code (cd Pr 3 [1, 1, 1, 1, 1, 0, 1, 0, 0, 1, 0, 0, 1, 1, 1, 1, 1, 1, 1, 1, 1, 1]), .inBlock 1, .code (cd Pr 3 [1, 1, 1, 1, 1, 0, 1, 0, 0, 1, 1]), .inLoop (cd Pr 3 [1, 1, 1, 1, 1, 0, 1, 0, 0]), .inBlock 0, .code (cd Pr 3 [1, 1, 1, 1, 1, 1])]
noncomputable def A3_20 (Q : Value → AH → Prop) (t1 t2 t3 t7 t9 t10 : Value) (h : AH) : Prop := Pt Pr K 3 none (retV Pr 3 Q) 151 [1, 2, 3, 7, 9, 10] k3_20 [] [t1, t2, t3, t7, t9, t10] h
noncomputable def k3_21 : List Item := [.code (cd Pr 3 [1, 1, 1, 1, 1, 0, 1, 0, 0, 1, 0, 0, 1, 1, 1, 1, 1, 1, 0, 1, 0, 1, 0, 1, 0, 0, 0, 1, 0]), .code (cd Pr 3 [1, 1, 1, 1, 1, 0, 1, 0, 0, 1, 0, 0, 1, 1, 1, 1, 1, 1, 0, 1, 0, 1, 0, 1, 0, 0, 1]), .inLoop (cd Pr 3 [1, 1, 1, 1, 1, 0, 1, 0, 0, 1, 0, 0, 1, 1, 1, 1, 1, 1, 0, 1, 0, 1, 0, 1, 0, 0]), .inBlock 2, .code (cd Pr 3 [1, 1, 1, 1, 1, 0, 1, 0, 0, 1, 0, 0, 1, 1, 1, 1, 1, 1, 0, 1, 0, 1, 1]), .code (cd Pr 3 [1, 1, 1, 1, 1, 0, 1, 0, 0, 1, 0, 0, 1, 1, 1, 1, 1, 1, 1]), .inBlock 1, .code (cd Pr 3 [1, 1, 1, 1, 1, 0, 1, 0, 0, 1, 1]), .inLoop (cd Pr 3 [1, 1, 1, 1, 1, 0, 1, 0, 0]), .inBlock 0, .code (cd Pr 3 [1, 1, 1, 1, 1, 1])]
noncomputable def A3_21 (Q : Value → AH → Prop) (t1 t2 t3 t7 t9 t10 t11 t15 t16 : Value) (h : AH) : Prop := Pt Pr K 3 none (retV Pr 3 Q) 151 [1, 2, 3, 7, 9, 10, 11, 15, 16] k3_21 [] [t1, t2, t3, t7, t9, t10, t11, t15, t16] h
noncomputable def k3_22 : List Item := [.code (cd Pr 3 [1, 1, 1, 1, 1, 0, 1, 0, 0, 1, 0, 0, 1, 1, 1, 1, 1, 1, 0, 1, 0, 1, 0, 1, 0, 0, 0, 1, 1]), .code (cd Pr 3 [1, 1, 1, 1, 1, 0, 1, 0, 0, 1, 0, 0, 1, 1, 1, 1, 1, 1, 0, 1, 0, 1, 0, 1, 0, 0, 1]), .inLoop (cd Pr 3 [1, 1, 1, 1, 1, 0, 1, 0, 0, 1, 0, 0, 1, 1, 1, 1, 1, 1, 0, 1, 0, 1, 0, 1, 0, 0]), .inBlock 2, .code (cd Pr 3 [1, 1, 1, 1, 1, 0, 1, 0, 0, 1, 0, 0, 1, 1, 1, 1, 1, 1, 0, 1, 0, 1, 1]), .code (cd Pr 3 [1, 1, 1, 1, 1, 0, 1, 0, 0, 1, 0, 0, 1, 1, 1, 1, 1, 1, 1]), .inBlock 1, .code (cd Pr 3 [1, 1, 1, 1, 1, 0, 1, 0, 0, 1, 1]), .inLoop (cd Pr 3 [1, 1, 1, 1, 1, 0, 1, 0, 0]), .inBlock 0, .code (cd Pr 3 [1, 1, 1, 1, 1, 1])]
noncomputable def A3_22 (Q : Value → AH → Prop) (t1 t2 t3 t7 t9 t10 t11 t15 t16 : Value) (h : AH) : Prop := Pt Pr K 3 none (retV Pr 3 Q) 151 [1, 2, 3, 7, 9, 10, 11, 15, 16] k3_22 [] [t1, t2, t3, t7, t9, t10, t11, t15, t16] h
noncomputable def k3_23 : List Item := [.code (cd Pr 3 [1, 1, 1, 1, 1, 0, 1, 0, 0, 1, 0, 0, 1, 1, 1, 1, 1, 1, 0, 1, 0, 1, 1, 1, 0]), .code (cd Pr 3 [1, 1, 1, 1, 1, 0, 1, 0, 0, 1, 0, 0, 1, 1, 1, 1, 1, 1, 1]), .inBlock 1, .code (cd Pr 3 [1, 1, 1, 1, 1, 0, 1, 0, 0, 1, 1]), .inLoop (cd Pr 3 [1, 1, 1, 1, 1, 0, 1, 0, 0]), .inBlock 0, .code (cd Pr 3 [1, 1, 1, 1, 1, 1])]
noncomputable def A3_23 (Q : Value → AH → Prop) (t1 t2 t3 t7 t9 t10 t11 : Value) (h : AH) : Prop := Pt Pr K 3 none (retV Pr 3 Q) 151 [1, 2, 3, 7, 9, 10, 11] k3_23 [] [t1, t2, t3, t7, t9, t10, t11] h
noncomputable def k3_24 : List Item := [.code (cd Pr 3 [1, 1, 1, 1, 1, 0, 1, 0, 0, 1, 0, 0, 1, 1, 1, 1, 1, 1, 0, 1, 0, 1, 1, 1, 1]), .code (cd Pr 3 [1, 1, 1, 1, 1, 0, 1, 0, 0, 1, 0, 0, 1, 1, 1, 1, 1, 1, 1]), .inBlock 1, .code (cd Pr 3 [1, 1, 1, 1, 1, 0, 1, 0, 0, 1, 1]), .inLoop (cd Pr 3 [1, 1, 1, 1, 1, 0, 1, 0, 0]), .inBlock 0, .code (cd Pr 3 [1, 1, 1, 1, 1, 1])]
noncomputable def A3_24 (Q : Value → AH → Prop) (t1 t2 t3 t7 t9 t10 : Value) (h : AH) : Prop := Pt Pr K 3 none (retV Pr 3 Q) 151 [1, 2, 3, 7, 9, 10] k3_24 [] [t1, t2, t3, t7, t9, t10] h
theorem b3_0 {h : AH} {Q : Value → AH → Prop} {t0 t1 t2 : Value} (H :
 thn (blkOf 22 t0) fun b0 =>
 alc h b0 fun h1 =>
 thn (idxA 2 1 (ptr0 h.next) (.int .i64 0)) fun v2 =>
 thn (ld1 h1 v2) fun v3 =>
 thn (idxA 2 1 (ptr0 h.next) (.int .i64 1)) fun v4 =>
 thn (ld1 h1 v4) fun v5 =>
 Ok Pr K (.call 4 [v3, v5]) h1 fun o6 h6 => -- donjon/donjonlaw07.may
 thn (unV .not o6.v) fun v7 =>
 Br v7 (
 Br (.bool true) (
 Br (.bool true) (
 A3_1 Q  h6) (
 A3_2 Q t1 t2 (ptr0 h.next) h6)) (
 thn (lenS t2) fun v8 =>
 thn (abin Pr .gtr 3 (.tmp 31) (.const (.int .i64 40)) v8 (.int .i64 40)) fun v9 =>
 Br v9 (
 A3_1 Q  h6) (
 A3_2 Q t1 t2 (ptr0 h.next) h6))) (
 thn (abin Pr .lss 3 (.tmp 26) (.const (.int .i64 0)) t1 (.int .i64 0)) fun v8 =>
 Br v8 (
 Br (.bool true) (
 A3_1 Q  h6) (
 A3_2 Q t1 t2 (ptr0 h.next) h6)) (
 thn (lenS t2) fun v9 =>
 thn (abin Pr .gtr 3 (.tmp 31) (.const (.int .i64 40)) v9 (.int .i64 40)) fun v10 =>
 Br v10 (
 A3_1 Q  h6) (
 A3_2 Q t1 t2 (ptr0 h.next) h6)))
) : A3_0 Q t0 t1 t2 h := by intro e he; simp only [List.map, List.cons.injEq, and_true] at he; obtain ⟨rfl, rfl, rfl⟩ := he; exact block_fn (L := L3) 200 (Eq.mp (by kernel_rfl) H)
theorem b3_1 {h : AH} {Q : Value → AH → Prop} (H :
 Ok Pr K (.call 5 []) h fun o0 h0 => -- donjon/donjonlaw07.awake
 Q o0.v h0
) : A3_1 Q  h := by intro e _; exact block_fn (L := L3) 200 (Eq.mp (by kernel_rfl) H)
theorem b3_2 {h : AH} {Q : Value → AH → Prop} {t1 t2 t3 : Value} (H :
 thn (idxA 2 1 t3 (.int .i64 0)) fun v0 =>
 thn (ld1 h v0) fun v1 =>
 thn (idxA 2 1 t3 (.int .i64 1)) fun v2 =>
 thn (ld1 h v2) fun v3 =>
 Ok Pr K (.call 6 [v1, v3]) h fun o4 h4 => -- donjon/tags.New[int]
 thn (extV 0 o4.v) fun v5 =>
 thn (extV 1 o4.v) fun v6 =>
 thn (abin Pr .neq 27 (.tmp 43) (.const (.int .i64 0)) v6 (.int .i64 0)) fun v7 =>
 Br v7 (
 Br (.bool true) (
 Br (.bool true) (
 A3_3 Q  h4) (
 A3_4 Q t1 t2 t3 v5 h4)) (
 Ok Pr K (.call 7 [v5, t1, (.int .i64 99)]) h4 fun o8 h8 => -- (*donjon/tags.Cache[int]).Put
 thn (abin Pr .neq 27 (.tmp 52) (.const (.int .i64 0)) o8.v (.int .i64 0)) fun v9 =>
 Br v9 (
 A3_3 Q  h8) (
 A3_4 Q t1 t2 t3 v5 h8))) (
 thn (abin Pr .eql 26 (.tmp 46) (.const (.pointer none)) v5 (.pointer none)) fun v8 =>
 Br v8 (
 Br (.bool true) (
 A3_3 Q  h4) (
 A3_4 Q t1 t2 t3 v5 h4)) (
 Ok Pr K (.call 7 [v5, t1, (.int .i64 99)]) h4 fun o9 h9 => -- (*donjon/tags.Cache[int]).Put
 thn (abin Pr .neq 27 (.tmp 52) (.const (.int .i64 0)) o9.v (.int .i64 0)) fun v10 =>
 Br v10 (
 A3_3 Q  h9) (
 A3_4 Q t1 t2 t3 v5 h9)))
) : A3_2 Q t1 t2 t3 h := by intro e he; simp only [List.map, List.cons.injEq, and_true] at he; obtain ⟨rfl, rfl, rfl⟩ := he; exact block_fn (L := L3) 200 (Eq.mp (by kernel_rfl) H)
theorem b3_3 {h : AH} {Q : Value → AH → Prop} (H :
 Q (.bool false) h
) : A3_3 Q  h := by intro e _; exact block_fn (L := L3) 200 (Eq.mp (by kernel_rfl) H)
theorem b3_4 {h : AH} {Q : Value → AH → Prop} {t1 t2 t3 t7 : Value} (H :
 A3_5 Q t1 t2 t3 t7 (.slice none 0 0) (.int .i64 0) h
) : A3_4 Q t1 t2 t3 t7 h := by intro e he; simp only [List.map, List.cons.injEq, and_true] at he; obtain ⟨rfl, rfl, rfl, rfl⟩ := he; exact block_fn (L := L3) 200 (Eq.mp (by kernel_rfl) H)
theorem b3_5 {h : AH} {Q : Value → AH → Prop} {t1 t2 t3 t7 t9 t10 : Value} (H :
 thn (lenS t2) fun v0 =>
 thn (abin Pr .lss 3 (.tmp 55) (.tmp 57) t10 v0) fun v1 =>
 Br v1 (
 A3_6 Q t1 t2 t3 t7 t9 t10 h) (
 A3_7 Q t1 t2 t3 t7 t9 t10 h)
) : A3_5 Q t1 t2 t3 t7 t9 t10 h := by intro e he; simp only [List.map, List.cons.injEq, and_true] at he; obtain ⟨rfl, rfl, rfl, rfl, rfl, rfl⟩ := he; exact block_fn (L := L3) 200 (Eq.mp (by kernel_rfl) H)
theorem b3_6 {h : AH} {Q : Value → AH → Prop} {t1 t2 t3 t7 t9 t10 : Value} (H :
 thn (idxS 1 t2 t10) fun v0 =>
 thn (ld1 h v0) fun v1 =>
 thn (abin Pr .lss 3 (.tmp 65) (.const (.int .i64 0)) v1 (.int .i64 0)) fun v2 =>
 Br v2 (
 Br (.bool true) (
 A3_8 Q t1 t2 t3 t7 t9 t10 v1 h) (
 A3_9 Q t1 t2 t3 t7 t9 t10 v1 h)) (
 thn (abin Pr .eql 3 (.tmp 68) (.tmp 69) v1 t1) fun v3 =>
 Br v3 (
 A3_8 Q t1 t2 t3 t7 t9 t10 v1 h) (
 A3_9 Q t1 t2 t3 t7 t9 t10 v1 h))
) : A3_6 Q t1 t2 t3 t7 t9 t10 h := by intro e he; simp only [List.map, List.cons.injEq, and_true] at he; obtain ⟨rfl, rfl, rfl, rfl, rfl, rfl⟩ := he; exact block_fn (L := L3) 200 (Eq.mp (by kernel_rfl) H)
theorem b3_7 {h : AH} {Q : Value → AH → Prop} {t1 t2 t3 t7 t9 t10 : Value} (H :
 Ok Pr K (.call 5 []) h fun o0 h0 => -- donjon/donjonlaw07.awake
 Q o0.v h0
) : A3_7 Q t1 t2 t3 t7 t9 t10 h := by intro e he; simp only [List.map, List.cons.injEq, and_true] at he; obtain ⟨rfl, rfl, rfl, rfl, rfl, rfl⟩ := he; exact block_fn (L := L3) 200 (Eq.mp (by kernel_rfl) H)
theorem b3_8 {h : AH} {Q : Value → AH → Prop} {t1 t2 t3 t7 t9 t10 t11 : Value} (H :
 thn (abin Pr .add 3 (.tmp 59) (.const (.int .i64 1)) t10 (.int .i64 1)) fun v0 =>
 A3_5 Q t1 t2 t3 t7 t9 v0 h
) : A3_8 Q t1 t2 t3 t7 t9 t10 t11 h := by intro e he; simp only [List.map, List.cons.injEq, and_true] at he; obtain ⟨rfl, rfl, rfl, rfl, rfl, rfl, rfl⟩ := he; exact block_fn (L := L3) 200 (Eq.mp (by kernel_rfl) H)
theorem b3_9 {h : AH} {Q : Value → AH → Prop} {t1 t2 t3 t7 t9 t10 t11 : Value} (H :
 Ok Pr K (.call 8 [t7, t11]) h fun o0 h0 => -- (*donjon/tags.Cache[int]).Victim
 thn (extV 0 o0.v) fun v1 =>
 thn (extV 1 o0.v) fun v2 =>
 thn (extV 2 o0.v) fun v3 =>
 thn (abin Pr .neq 27 (.tmp 79) (.const (.int .i64 0)) v3 (.int .i64 0)) fun v4 =>
 Br v4 (
 A3_10 Q  h0) (
 A3_11 Q t1 t2 t3 t7 t9 t10 t11 v1 v2 h0)
) : A3_9 Q t1 t2 t3 t7 t9 t10 t11 h := by intro e he; simp only [List.map, List.cons.injEq, and_true] at he; obtain ⟨rfl, rfl, rfl, rfl, rfl, rfl, rfl⟩ := he; exact block_fn (L := L3) 200 (Eq.mp (by kernel_rfl) H)
theorem b3_10 {h : AH} {Q : Value → AH → Prop} (H :
 Q (.bool false) h
) : A3_10 Q  h := by intro e _; exact block_fn (L := L3) 200 (Eq.mp (by kernel_rfl) H)
theorem b3_11 {h : AH} {Q : Value → AH → Prop} {t1 t2 t3 t7 t9 t10 t11 t12 t13 : Value} (H :
 Br t13 (
 A3_12 Q t1 t2 t3 t7 t9 t10 t11 t12 h) (
 A3_13 Q t1 t2 t3 t7 t9 t10 t11 h)
) : A3_11 Q t1 t2 t3 t7 t9 t10 t11 t12 t13 h := by intro e he; simp only [List.map, List.cons.injEq, and_true] at he; obtain ⟨rfl, rfl, rfl, rfl, rfl, rfl, rfl, rfl, rfl⟩ := he; exact block_fn (L := L3) 200 (Eq.mp (by kernel_rfl) H)
theorem b3_12 {h : AH} {Q : Value → AH → Prop} {t1 t2 t3 t7 t9 t10 t11 t12 : Value} (H :
 Ok Pr K (.call 9 [t7, t12]) h fun o0 h0 => -- (*donjon/tags.Cache[int]).Drop
 Ok Pr K (.call 7 [t7, t11, t10]) h0 fun o1 h1 => -- (*donjon/tags.Cache[int]).Put
 thn (abin Pr .neq 27 (.tmp 88) (.const (.int .i64 0)) o1.v (.int .i64 0)) fun v2 =>
 Br v2 (
 A3_14 Q  h1) (
 A3_15 Q t1 t2 t3 t7 t9 t10 t11 h1)
) : A3_12 Q t1 t2 t3 t7 t9 t10 t11 t12 h := by intro e he; simp only [List.map, List.cons.injEq, and_true] at he; obtain ⟨rfl, rfl, rfl, rfl, rfl, rfl, rfl, rfl⟩ := he; exact block_fn (L := L3) 200 (Eq.mp (by kernel_rfl) H)
theorem b3_13 {h : AH} {Q : Value → AH → Prop} {t1 t2 t3 t7 t9 t10 t11 : Value} (H :
 Ok Pr K (.call 7 [t7, t11, t10]) h fun o0 h0 => -- (*donjon/tags.Cache[int]).Put
 thn (abin Pr .neq 27 (.tmp 88) (.const (.int .i64 0)) o0.v (.int .i64 0)) fun v1 =>
 Br v1 (
 A3_14 Q  h0) (
 A3_15 Q t1 t2 t3 t7 t9 t10 t11 h0)
) : A3_13 Q t1 t2 t3 t7 t9 t10 t11 h := by intro e he; simp only [List.map, List.cons.injEq, and_true] at he; obtain ⟨rfl, rfl, rfl, rfl, rfl, rfl, rfl⟩ := he; exact block_fn (L := L3) 200 (Eq.mp (by kernel_rfl) H)
theorem b3_14 {h : AH} {Q : Value → AH → Prop} (H :
 Q (.bool false) h
) : A3_14 Q  h := by intro e _; exact block_fn (L := L3) 200 (Eq.mp (by kernel_rfl) H)
theorem b3_15 {h : AH} {Q : Value → AH → Prop} {t1 t2 t3 t7 t9 t10 t11 : Value} (H :
 resv h 9 fun h0 =>
 thn (idxA 2 1 t3 (.int .i64 0)) fun v1 =>
 thn (ld1 h0 v1) fun v2 =>
 thn (abin Pr .rem 3 (.tmp 90) (.tmp 92) t11 v2) fun v3 =>
 thn (idxA 2 1 t3 (.int .i64 0)) fun v4 =>
 thn (ld1 h0 v4) fun v5 =>
 thn (abin Pr .rem 3 (.tmp 94) (.tmp 96) t1 v5) fun v6 =>
 thn (abin Pr .eql 3 (.tmp 93) (.tmp 97) v3 v6) fun v7 =>
 Br v7 (
 A3_16 Q t1 t2 t3 t7 t9 t10 t11 h0) (
 A3_17 Q t1 t2 t3 t7 t9 t10 h0)
) : A3_15 Q t1 t2 t3 t7 t9 t10 t11 h := by intro e he; simp only [List.map, List.cons.injEq, and_true] at he; obtain ⟨rfl, rfl, rfl, rfl, rfl, rfl, rfl⟩ := he; exact block_fn (L := L3) 200 (Eq.mp (by kernel_rfl) H)
theorem b3_16 {h : AH} {Q : Value → AH → Prop} {t1 t2 t3 t7 t9 t10 t11 : Value} (H :
 A3_18 Q t1 t2 t3 t7 t9 t10 t11 (.bool false) (.int .i64 0) h
) : A3_16 Q t1 t2 t3 t7 t9 t10 t11 h := by intro e he; simp only [List.map, List.cons.injEq, and_true] at he; obtain ⟨rfl, rfl, rfl, rfl, rfl, rfl, rfl⟩ := he; exact block_fn (L := L3) 200 (Eq.mp (by kernel_rfl) H)
theorem b3_17 {h : AH} {Q : Value → AH → Prop} {t1 t2 t3 t7 t9 t10 : Value} (H :
 Ok Pr K (.call 10 [t7, t1]) h fun o0 h0 => -- (*donjon/tags.Cache[int]).Peek
 thn (extV 0 o0.v) fun v1 =>
 thn (extV 1 o0.v) fun v2 =>
 thn (lenS t9) fun v3 =>
 thn (idxA 2 1 t3 (.int .i64 1)) fun v4 =>
 thn (ld1 h0 v4) fun v5 =>
 thn (abin Pr .lss 3 (.tmp 127) (.tmp 129) v3 v5) fun v6 =>
 Br v6 (
 thn (abin Pr .neq 3 (.tmp 132) (.const (.int .i64 99)) v1 (.int .i64 99)) fun v7 =>
 Br v7 (
 Br (.bool true) (
 Br (.bool true) (
 A3_19 Q  h0) (
 A3_20 Q t1 t2 t3 t7 t9 t10 h0)) (
 thn (lenS t9) fun v8 =>
 thn (idxA 2 1 t3 (.int .i64 1)) fun v9 =>
 thn (ld1 h0 v9) fun v10 =>
 thn (abin Pr .geq 3 (.tmp 141) (.tmp 143) v8 v10) fun v11 =>
 Br v11 (
 thn (abin Pr .neq 27 (.tmp 146) (.const (.int .i64 12)) v2 (.int .i64 12)) fun v12 =>
 Br v12 (
 A3_19 Q  h0) (
 A3_20 Q t1 t2 t3 t7 t9 t10 h0)) (
 Br (.bool false) (
 A3_19 Q  h0) (
 A3_20 Q t1 t2 t3 t7 t9 t10 h0)))) (
 thn (abin Pr .neq 27 (.tmp 135) (.const (.int .i64 0)) v2 (.int .i64 0)) fun v8 =>
 Br v8 (
 Br (.bool true) (
 A3_19 Q  h0) (
 A3_20 Q t1 t2 t3 t7 t9 t10 h0)) (
 thn (lenS t9) fun v9 =>
 thn (idxA 2 1 t3 (.int .i64 1)) fun v10 =>
 thn (ld1 h0 v10) fun v11 =>
 thn (abin Pr .geq 3 (.tmp 141) (.tmp 143) v9 v11) fun v12 =>
 Br v12 (
 thn (abin Pr .neq 27 (.tmp 146) (.const (.int .i64 12)) v2 (.int .i64 12)) fun v13 =>
 Br v13 (
 A3_19 Q  h0) (
 A3_20 Q t1 t2 t3 t7 t9 t10 h0)) (
 Br (.bool false) (
 A3_19 Q  h0) (
 A3_20 Q t1 t2 t3 t7 t9 t10 h0))))) (
 Br (.bool false) (
 Br (.bool true) (
 A3_19 Q  h0) (
 A3_20 Q t1 t2 t3 t7 t9 t10 h0)) (
 thn (lenS t9) fun v7 =>
 thn (idxA 2 1 t3 (.int .i64 1)) fun v8 =>
 thn (ld1 h0 v8) fun v9 =>
 thn (abin Pr .geq 3 (.tmp 141) (.tmp 143) v7 v9) fun v10 =>
 Br v10 (
 thn (abin Pr .neq 27 (.tmp 146) (.const (.int .i64 12)) v2 (.int .i64 12)) fun v11 =>
 Br v11 (
 A3_19 Q  h0) (
 A3_20 Q t1 t2 t3 t7 t9 t10 h0)) (
 Br (.bool false) (
 A3_19 Q  h0) (
 A3_20 Q t1 t2 t3 t7 t9 t10 h0))))
) : A3_17 Q t1 t2 t3 t7 t9 t10 h := by intro e he; simp only [List.map, List.cons.injEq, and_true] at he; obtain ⟨rfl, rfl, rfl, rfl, rfl, rfl⟩ := he; exact block_fn (L := L3) 200 (Eq.mp (by kernel_rfl) H)
theorem b3_18 {h : AH} {Q : Value → AH → Prop} {t1 t2 t3 t7 t9 t10 t11 t15 t16 : Value} (H :
 thn (lenS t9) fun v0 =>
 thn (abin Pr .lss 3 (.tmp 99) (.tmp 101) t16 v0) fun v1 =>
 Br v1 (
 A3_21 Q t1 t2 t3 t7 t9 t10 t11 t15 t16 h) (
 A3_22 Q t1 t2 t3 t7 t9 t10 t11 t15 t16 h)
) : A3_18 Q t1 t2 t3 t7 t9 t10 t11 t15 t16 h := by intro e he; simp only [List.map, List.cons.injEq, and_true] at he; obtain ⟨rfl, rfl, rfl, rfl, rfl, rfl, rfl, rfl, rfl⟩ := he; exact block_fn (L := L3) 200 (Eq.mp (by kernel_rfl) H)
theorem b3_19 {h : AH} {Q : Value → AH → Prop} (H :
 Q (.bool false) h
) : A3_19 Q  h := by intro e _; exact block_fn (L := L3) 200 (Eq.mp (by kernel_rfl) H)
theorem b3_20 {h : AH} {Q : Value → AH → Prop} {t1 t2 t3 t7 t9 t10 : Value} (H :
 thn (abin Pr .add 3 (.tmp 59) (.const (.int .i64 1)) t10 (.int .i64 1)) fun v0 =>
 A3_5 Q t1 t2 t3 t7 t9 v0 h
) : A3_20 Q t1 t2 t3 t7 t9 t10 h := by intro e he; simp only [List.map, List.cons.injEq, and_true] at he; obtain ⟨rfl, rfl, rfl, rfl, rfl, rfl⟩ := he; exact block_fn (L := L3) 200 (Eq.mp (by kernel_rfl) H)
theorem b3_21 {h : AH} {Q : Value → AH → Prop} {t1 t2 t3 t7 t9 t10 t11 t15 t16 : Value} (H :
 Br t15 (
 thn (abin Pr .add 3 (.tmp 103) (.const (.int .i64 1)) t16 (.int .i64 1)) fun v0 =>
 A3_18 Q t1 t2 t3 t7 t9 t10 t11 (.bool true) v0 h) (
 thn (idxS 1 t9 t16) fun v0 =>
 thn (ld1 h v0) fun v1 =>
 thn (abin Pr .eql 3 (.tmp 110) (.tmp 111) v1 t11) fun v2 =>
 thn (abin Pr .add 3 (.tmp 103) (.const (.int .i64 1)) t16 (.int .i64 1)) fun v3 =>
 A3_18 Q t1 t2 t3 t7 t9 t10 t11 v2 v3 h)
) : A3_21 Q t1 t2 t3 t7 t9 t10 t11 t15 t16 h := by intro e he; simp only [List.map, List.cons.injEq, and_true] at he; obtain ⟨rfl, rfl, rfl, rfl, rfl, rfl, rfl, rfl, rfl⟩ := he; exact block_fn (L := L3) 200 (Eq.mp (by kernel_rfl) H)
theorem b3_22 {h : AH} {Q : Value → AH → Prop} {t1 t2 t3 t7 t9 t10 t11 t15 t16 : Value} (H :
 thn (unV .not t15) fun v0 =>
 Br v0 (
 A3_23 Q t1 t2 t3 t7 t9 t10 t11 h) (
 A3_24 Q t1 t2 t3 t7 t9 t10 h)
) : A3_22 Q t1 t2 t3 t7 t9 t10 t11 t15 t16 h := by intro e he; simp only [List.map, List.cons.injEq, and_true] at he; obtain ⟨rfl, rfl, rfl, rfl, rfl, rfl, rfl, rfl, rfl⟩ := he; exact block_fn (L := L3) 200 (Eq.mp (by kernel_rfl) H)
theorem b3_23 {h : AH} {Q : Value → AH → Prop} {t1 t2 t3 t7 t9 t10 t11 : Value} (H :
 thn (afill (fun i => some (i * 1, 1)) [(.int .i64 0)] [(0, t11)]) fun l0 =>
 alc h (.cells l0 3 (0, 0) true) fun h1 =>
 thn (appV 1 8 3 h1 t9 (slPtr 1 1 h.next)) fun r2 =>
 Ok Pr K (.call 10 [t7, t1]) r2.2 fun o3 h3 => -- (*donjon/tags.Cache[int]).Peek
 thn (extV 0 o3.v) fun v4 =>
 thn (extV 1 o3.v) fun v5 =>
 thn (lenS r2.1) fun v6 =>
 thn (idxA 2 1 t3 (.int .i64 1)) fun v7 =>
 thn (ld1 h3 v7) fun v8 =>
 thn (abin Pr .lss 3 (.tmp 127) (.tmp 129) v6 v8) fun v9 =>
 Br v9 (
 thn (abin Pr .neq 3 (.tmp 132) (.const (.int .i64 99)) v4 (.int .i64 99)) fun v10 =>
 Br v10 (
 Br (.bool true) (
 Br (.bool true) (
 A3_19 Q  h3) (
 A3_20 Q t1 t2 t3 t7 r2.1 t10 h3)) (
 thn (lenS r2.1) fun v11 =>
 thn (idxA 2 1 t3 (.int .i64 1)) fun v12 =>
 thn (ld1 h3 v12) fun v13 =>
 thn (abin Pr .geq 3 (.tmp 141) (.tmp 143) v11 v13) fun v14 =>
 Br v14 (
 thn (abin Pr .neq 27 (.tmp 146) (.const (.int .i64 12)) v5 (.int .i64 12)) fun v15 =>
 Br v15 (
 A3_19 Q  h3) (
 A3_20 Q t1 t2 t3 t7 r2.1 t10 h3)) (
 Br (.bool false) (
 A3_19 Q  h3) (
 A3_20 Q t1 t2 t3 t7 r2.1 t10 h3)))) (
 thn (abin Pr .neq 27 (.tmp 135) (.const (.int .i64 0)) v5 (.int .i64 0)) fun v11 =>
 Br v11 (
 Br (.bool true) (
 A3_19 Q  h3) (
 A3_20 Q t1 t2 t3 t7 r2.1 t10 h3)) (
 thn (lenS r2.1) fun v12 =>
 thn (idxA 2 1 t3 (.int .i64 1)) fun v13 =>
 thn (ld1 h3 v13) fun v14 =>
 thn (abin Pr .geq 3 (.tmp 141) (.tmp 143) v12 v14) fun v15 =>
 Br v15 (
 thn (abin Pr .neq 27 (.tmp 146) (.const (.int .i64 12)) v5 (.int .i64 12)) fun v16 =>
 Br v16 (
 A3_19 Q  h3) (
 A3_20 Q t1 t2 t3 t7 r2.1 t10 h3)) (
 Br (.bool false) (
 A3_19 Q  h3) (
 A3_20 Q t1 t2 t3 t7 r2.1 t10 h3))))) (
 Br (.bool false) (
 Br (.bool true) (
 A3_19 Q  h3) (
 A3_20 Q t1 t2 t3 t7 r2.1 t10 h3)) (
 thn (lenS r2.1) fun v10 =>
 thn (idxA 2 1 t3 (.int .i64 1)) fun v11 =>
 thn (ld1 h3 v11) fun v12 =>
 thn (abin Pr .geq 3 (.tmp 141) (.tmp 143) v10 v12) fun v13 =>
 Br v13 (
 thn (abin Pr .neq 27 (.tmp 146) (.const (.int .i64 12)) v5 (.int .i64 12)) fun v14 =>
 Br v14 (
 A3_19 Q  h3) (
 A3_20 Q t1 t2 t3 t7 r2.1 t10 h3)) (
 Br (.bool false) (
 A3_19 Q  h3) (
 A3_20 Q t1 t2 t3 t7 r2.1 t10 h3))))
) : A3_23 Q t1 t2 t3 t7 t9 t10 t11 h := by intro e he; simp only [List.map, List.cons.injEq, and_true] at he; obtain ⟨rfl, rfl, rfl, rfl, rfl, rfl, rfl⟩ := he; exact block_fn (L := L3) 200 (Eq.mp (by kernel_rfl) H)
theorem b3_24 {h : AH} {Q : Value → AH → Prop} {t1 t2 t3 t7 t9 t10 : Value} (H :
 Ok Pr K (.call 10 [t7, t1]) h fun o0 h0 => -- (*donjon/tags.Cache[int]).Peek
 thn (extV 0 o0.v) fun v1 =>
 thn (extV 1 o0.v) fun v2 =>
 thn (lenS t9) fun v3 =>
 thn (idxA 2 1 t3 (.int .i64 1)) fun v4 =>
 thn (ld1 h0 v4) fun v5 =>
 thn (abin Pr .lss 3 (.tmp 127) (.tmp 129) v3 v5) fun v6 =>
 Br v6 (
 thn (abin Pr .neq 3 (.tmp 132) (.const (.int .i64 99)) v1 (.int .i64 99)) fun v7 =>
 Br v7 (
 Br (.bool true) (
 Br (.bool true) (
 A3_19 Q  h0) (
 A3_20 Q t1 t2 t3 t7 t9 t10 h0)) (
 thn (lenS t9) fun v8 =>
 thn (idxA 2 1 t3 (.int .i64 1)) fun v9 =>
 thn (ld1 h0 v9) fun v10 =>
 thn (abin Pr .geq 3 (.tmp 141) (.tmp 143) v8 v10) fun v11 =>
 Br v11 (
 thn (abin Pr .neq 27 (.tmp 146) (.const (.int .i64 12)) v2 (.int .i64 12)) fun v12 =>
 Br v12 (
 A3_19 Q  h0) (
 A3_20 Q t1 t2 t3 t7 t9 t10 h0)) (
 Br (.bool false) (
 A3_19 Q  h0) (
 A3_20 Q t1 t2 t3 t7 t9 t10 h0)))) (
 thn (abin Pr .neq 27 (.tmp 135) (.const (.int .i64 0)) v2 (.int .i64 0)) fun v8 =>
 Br v8 (
 Br (.bool true) (
 A3_19 Q  h0) (
 A3_20 Q t1 t2 t3 t7 t9 t10 h0)) (
 thn (lenS t9) fun v9 =>
 thn (idxA 2 1 t3 (.int .i64 1)) fun v10 =>
 thn (ld1 h0 v10) fun v11 =>
 thn (abin Pr .geq 3 (.tmp 141) (.tmp 143) v9 v11) fun v12 =>
 Br v12 (
 thn (abin Pr .neq 27 (.tmp 146) (.const (.int .i64 12)) v2 (.int .i64 12)) fun v13 =>
 Br v13 (
 A3_19 Q  h0) (
 A3_20 Q t1 t2 t3 t7 t9 t10 h0)) (
 Br (.bool false) (
 A3_19 Q  h0) (
 A3_20 Q t1 t2 t3 t7 t9 t10 h0))))) (
 Br (.bool false) (
 Br (.bool true) (
 A3_19 Q  h0) (
 A3_20 Q t1 t2 t3 t7 t9 t10 h0)) (
 thn (lenS t9) fun v7 =>
 thn (idxA 2 1 t3 (.int .i64 1)) fun v8 =>
 thn (ld1 h0 v8) fun v9 =>
 thn (abin Pr .geq 3 (.tmp 141) (.tmp 143) v7 v9) fun v10 =>
 Br v10 (
 thn (abin Pr .neq 27 (.tmp 146) (.const (.int .i64 12)) v2 (.int .i64 12)) fun v11 =>
 Br v11 (
 A3_19 Q  h0) (
 A3_20 Q t1 t2 t3 t7 t9 t10 h0)) (
 Br (.bool false) (
 A3_19 Q  h0) (
 A3_20 Q t1 t2 t3 t7 t9 t10 h0))))
) : A3_24 Q t1 t2 t3 t7 t9 t10 h := by intro e he; simp only [List.map, List.cons.injEq, and_true] at he; obtain ⟨rfl, rfl, rfl, rfl, rfl, rfl⟩ := he; exact block_fn (L := L3) 200 (Eq.mp (by kernel_rfl) H)
theorem c3 {h : AH} {Q : Value → AH → Prop} {a0 a1 a2 : Value} (H : A3_0 Q a0 a1 a2 h) : Ok Pr K (.call 3 [a0, a1, a2]) h fun o h' => Q o.v h' :=
  ok_enter (by kernel_rfl) rfl (Eq.mp (by kernel_rfl) (H (fun i => ([a0, a1, a2] : List Value).getD i undef) rfl))

/-! ### 4 donjon/donjonlaw07.may: params 2, captured 0, results [tmp 4] -/
noncomputable def L4 : List (Option Nat × List Nat) := [(some 0, [0, 1])]
noncomputable def k4_0 : List Item := [.code (cd Pr 4 [])]
noncomputable def A4_0 (Q : Value → AH → Prop) (t0 t1 : Value) (h : AH) : Prop := Pt Pr K 4 none (retV Pr 4 Q) 19 [0, 1] k4_0 [] [t0, t1] h
theorem b4_0 {h : AH} {Q : Value → AH → Prop} {t0 t1 : Value} (H :
 thn (abin Pr .geq 3 (.tmp 5) (.const (.int .i64 1)) t0 (.int .i64 1)) fun v0 =>
 Br v0 (
 thn (abin Pr .leq 3 (.tmp 8) (.const (.int .i64 8)) t0 (.int .i64 8)) fun v1 =>
 Br v1 (
 thn (abin Pr .geq 3 (.tmp 12) (.const (.int .i64 1)) t1 (.int .i64 1)) fun v2 =>
 Br v2 (
 thn (abin Pr .leq 3 (.tmp 16) (.const (.int .i64 4)) t1 (.int .i64 4)) fun v3 =>
 Q v3 h) (
 Q (.bool false) h)) (
 Br (.bool false) (
 thn (abin Pr .leq 3 (.tmp 16) (.const (.int .i64 4)) t1 (.int .i64 4)) fun v2 =>
 Q v2 h) (
 Q (.bool false) h))) (
 Br (.bool false) (
 thn (abin Pr .geq 3 (.tmp 12) (.const (.int .i64 1)) t1 (.int .i64 1)) fun v1 =>
 Br v1 (
 thn (abin Pr .leq 3 (.tmp 16) (.const (.int .i64 4)) t1 (.int .i64 4)) fun v2 =>
 Q v2 h) (
 Q (.bool false) h)) (
 Br (.bool false) (
 thn (abin Pr .leq 3 (.tmp 16) (.const (.int .i64 4)) t1 (.int .i64 4)) fun v1 =>
 Q v1 h) (
 Q (.bool false) h)))
) : A4_0 Q t0 t1 h := by intro e he; simp only [List.map, List.cons.injEq, and_true] at he; obtain ⟨rfl, rfl⟩ := he; exact block_fn (L := L4) 200 (Eq.mp (by kernel_rfl) H)
theorem c4 {h : AH} {Q : Value → AH → Prop} {a0 a1 : Value} (H : A4_0 Q a0 a1 h) : Ok Pr K (.call 4 [a0, a1]) h fun o h' => Q o.v h' :=
  ok_enter (by kernel_rfl) rfl (Eq.mp (by kernel_rfl) (H (fun i => ([a0, a1] : List Value).getD i undef) rfl))

/-! ### 6 donjon/tags.New[int]: params 2, captured 0, results [tmp 4, tmp 5] -/
noncomputable def L6 : List (Option Nat × List Nat) := [(some 0, [0, 1]), (some 2, []), (some 3, [0, 1])]
noncomputable def k6_0 : List Item := [.code (cd Pr 6 [])]
noncomputable def A6_0 (Q : Value → AH → Prop) (t0 t1 : Value) (h : AH) : Prop := Pt Pr K 6 none (retV Pr 6 Q) 25 [0, 1] k6_0 [] [t0, t1] h
noncomputable def k6_1 : List Item := [.code (cd Pr 6 [1, 0, 1, 0]), .code (cd Pr 6 [1, 1])]
noncomputable def A6_1 (Q : Value → AH → Prop) (h : AH) : Prop := Pt Pr K 6 none (retV Pr 6 Q) 25 [] k6_1 [] [] h
noncomputable def k6_2 : List Item := [.code (cd Pr 6 [1, 0, 1, 1]), .code (cd Pr 6 [1, 1])]
noncomputable def A6_2 (Q : Value → AH → Prop) (t0 t1 : Value) (h : AH) : Prop := Pt Pr K 6 none (retV Pr 6 Q) 25 [0, 1] k6_2 [] [t0, t1] h
theorem b6_0 {h : AH} {Q : Value → AH → Prop} {t0 t1 : Value} (H :
 thn (abin Pr .lss 3 (.tmp 6) (.const (.int .i64 1)) t0 (.int .i64 1)) fun v0 =>
 Br v0 (
 Br (.bool true) (
 Br (.bool true) (
 Br (.bool true) (
 A6_1 Q  h) (
 A6_2 Q t0 t1 h)) (
 thn (abin Pr .gtr 3 (.tmp 17) (.const (.int .i64 4)) t1 (.int .i64 4)) fun v1 =>
 Br v1 (
 A6_1 Q  h) (
 A6_2 Q t0 t1 h))) (
 thn (abin Pr .lss 3 (.tmp 13) (.const (.int .i64 1)) t1 (.int .i64 1)) fun v1 =>
 Br v1 (
 Br (.bool true) (
 A6_1 Q  h) (
 A6_2 Q t0 t1 h)) (
 thn (abin Pr .gtr 3 (.tmp 17) (.const (.int .i64 4)) t1 (.int .i64 4)) fun v2 =>
 Br v2 (
 A6_1 Q  h) (
 A6_2 Q t0 t1 h)))) (
 thn (abin Pr .gtr 3 (.tmp 9) (.const (.int .i64 8)) t0 (.int .i64 8)) fun v1 =>
 Br v1 (
 Br (.bool true) (
 Br (.bool true) (
 A6_1 Q  h) (
 A6_2 Q t0 t1 h)) (
 thn (abin Pr .gtr 3 (.tmp 17) (.const (.int .i64 4)) t1 (.int .i64 4)) fun v2 =>
 Br v2 (
 A6_1 Q  h) (
 A6_2 Q t0 t1 h))) (
 thn (abin Pr .lss 3 (.tmp 13) (.const (.int .i64 1)) t1 (.int .i64 1)) fun v2 =>
 Br v2 (
 Br (.bool true) (
 A6_1 Q  h) (
 A6_2 Q t0 t1 h)) (
 thn (abin Pr .gtr 3 (.tmp 17) (.const (.int .i64 4)) t1 (.int .i64 4)) fun v3 =>
 Br v3 (
 A6_1 Q  h) (
 A6_2 Q t0 t1 h))))
) : A6_0 Q t0 t1 h := by intro e he; simp only [List.map, List.cons.injEq, and_true] at he; obtain ⟨rfl, rfl⟩ := he; exact block_fn (L := L6) 200 (Eq.mp (by kernel_rfl) H)
theorem b6_1 {h : AH} {Q : Value → AH → Prop} (H :
 Q (.tuple #[(.pointer none), (.int .i64 10)]) h
) : A6_1 Q  h := by intro e _; exact block_fn (L := L6) 200 (Eq.mp (by kernel_rfl) H)
theorem b6_2 {h : AH} {Q : Value → AH → Prop} {t0 t1 : Value} (H :
 thn (mkS 24 t0 t0) fun n0 =>
 alc h (.cells (zerosA [(.slice none 0 0)] n0.2) 42 (0, 0) true) fun h1 =>
 thn (abuild Pr 38 [(0, t1), (1, (slPtr n0.1 n0.2 h.next))]) fun v2 =>
 thn (blkOf 38 v2) fun b3 =>
 alc h1 b3 fun h4 =>
 Q (.tuple #[(ptr0 h1.next), (.int .i64 0)]) h4
) : A6_2 Q t0 t1 h := by intro e he; simp only [List.map, List.cons.injEq, and_true] at he; obtain ⟨rfl, rfl⟩ := he; exact block_fn (L := L6) 200 (Eq.mp (by kernel_rfl) H)
theorem c6 {h : AH} {Q : Value → AH → Prop} {a0 a1 : Value} (H : A6_0 Q a0 a1 h) : Ok Pr K (.call 6 [a0, a1]) h fun o h' => Q o.v h' :=
  ok_enter (by kernel_rfl) rfl (Eq.mp (by kernel_rfl) (H (fun i => ([a0, a1] : List Value).getD i undef) rfl))

/-! ### 7 (*donjon/tags.Cache[int]).Put: params 3, captured 0, results [tmp 6] -/
noncomputable def L7 : List (Option Nat × List Nat) := [(some 0, [0, 1, 2]), (some 3, [9]), (some 4, [0, 1, 2, 7, 8]), (some 5, [0, 1, 2, 7, 8]), (some 6, [0, 1, 2, 7]), (some 7, []), (some 8, [1, 2, 7])]
noncomputable def k7_0 : List Item := [.code (cd Pr 7 [])]
noncomputable def A7_0 (Q : Value → AH → Prop) (t0 t1 t2 : Value) (h : AH) : Prop := Pt Pr K 7 none (retV Pr 7 Q) 50 [0, 1, 2] k7_0 [] [t0, t1, t2] h
noncomputable def k7_1 : List Item := [.code (cd Pr 7 [1, 1, 0, 1, 0]), .code (cd Pr 7 [1, 1, 1])]
noncomputable def A7_1 (Q : Value → AH → Prop) (t9 : Value) (h : AH) : Prop := Pt Pr K 7 none (retV Pr 7 Q) 50 [9] k7_1 [] [t9] h
noncomputable def k7_2 : List Item := [.code (cd Pr 7 [1, 1, 0, 1, 1]), .code (cd Pr 7 [1, 1, 1])]
noncomputable def A7_2 (Q : Value → AH → Prop) (t0 t1 t2 t7 t8 : Value) (h : AH) : Prop := Pt Pr K 7 none (retV Pr 7 Q) 50 [0, 1, 2, 7, 8] k7_2 [] [t0, t1, t2, t7, t8] h
noncomputable def k7_3 : List Item := [.code (cd Pr 7 [1, 1, 1, 0, 1, 0]), .code (cd Pr 7 [1, 1, 1, 1])]
noncomputable def A7_3 (Q : Value → AH → Prop) (t0 t1 t2 t7 t8 : Value) (h : AH) : Prop := Pt Pr K 7 none (retV Pr 7 Q) 50 [0, 1, 2, 7, 8] k7_3 [] [t0, t1, t2, t7, t8] h
noncomputable def k7_4 : List Item := [.code (cd Pr 7 [1, 1, 1, 0, 1, 1]), .code (cd Pr 7 [1, 1, 1, 1])]
noncomputable def A7_4 (Q : Value → AH → Prop) (t0 t1 t2 t7 : Value) (h : AH) : Prop := Pt Pr K 7 none (retV Pr 7 Q) 50 [0, 1, 2, 7] k7_4 [] [t0, t1, t2, t7] h
noncomputable def k7_5 : List Item := [.code (cd Pr 7 [1, 1, 1, 1, 0, 1, 0]), .code (cd Pr 7 [1, 1, 1, 1, 1])]
noncomputable def A7_5 (Q : Value → AH → Prop) (h : AH) : Prop := Pt Pr K 7 none (retV Pr 7 Q) 50 [] k7_5 [] [] h
noncomputable def k7_6 : List Item := [.code (cd Pr 7 [1, 1, 1, 1, 0, 1, 1]), .code (cd Pr 7 [1, 1, 1, 1, 1])]
noncomputable def A7_6 (Q : Value → AH → Prop) (t1 t2 t7 : Value) (h : AH) : Prop := Pt Pr K 7 none (retV Pr 7 Q) 50 [1, 2, 7] k7_6 [] [t1, t2, t7] h
theorem b7_0 {h : AH} {Q : Value → AH → Prop} {t0 t1 t2 : Value} (H :
 Ok Pr K (.call 12 [t0, t1]) h fun o0 h0 => -- (*donjon/tags.Cache[int]).find
 thn (extV 0 o0.v) fun v1 =>
 thn (extV 1 o0.v) fun v2 =>
 thn (extV 2 o0.v) fun v3 =>
 thn (abin Pr .neq 27 (.tmp 17) (.const (.int .i64 0)) v3 (.int .i64 0)) fun v4 =>
 Br v4 (
 A7_1 Q v3 h0) (
 A7_2 Q t0 t1 t2 v1 v2 h0)
) : A7_0 Q t0 t1 t2 h := by intro e he; simp only [List.map, List.cons.injEq, and_true] at he; obtain ⟨rfl, rfl, rfl⟩ := he; exact block_fn (L := L7) 200 (Eq.mp (by kernel_rfl) H)
theorem b7_1 {h : AH} {Q : Value → AH → Prop} {t9 : Value} (H :
 Q t9 h
) : A7_1 Q t9 h := by intro e he; simp only [List.map, List.cons.injEq, and_true] at he; obtain ⟨rfl⟩ := he; exact block_fn (L := L7) 200 (Eq.mp (by kernel_rfl) H)
theorem b7_2 {h : AH} {Q : Value → AH → Prop} {t0 t1 t2 t7 t8 : Value} (H :
 thn (abin Pr .geq 3 (.tmp 20) (.const (.int .i64 0)) t8 (.int .i64 0)) fun v0 =>
 Br v0 (
 A7_3 Q t0 t1 t2 t7 t8 h) (
 A7_4 Q t0 t1 t2 t7 h)
) : A7_2 Q t0 t1 t2 t7 t8 h := by intro e he; simp only [List.map, List.cons.injEq, and_true] at he; obtain ⟨rfl, rfl, rfl, rfl, rfl⟩ := he; exact block_fn (L := L7) 200 (Eq.mp (by kernel_rfl) H)
theorem b7_3 {h : AH} {Q : Value → AH → Prop} {t0 t1 t2 t7 t8 : Value} (H :
 thn (nilV t7) fun v0 =>
 thn (ld1 h v0) fun v1 =>
 thn (abin Pr .add 3 (.tmp 27) (.const (.int .i64 1)) t8 (.int .i64 1)) fun v2 =>
 Ok Pr K (.call 13 [v1, t8, v2]) h fun o3 h3 => -- slices.Delete[[]donjon/tags.thing[int],donjon/tags.thing[int]]
 thn (nilV t7) fun v4 =>
 thn (stV h3 1 v4 o3.v) fun h5 =>
 resv h5 9 fun h6 =>
 thn (nilV t7) fun v7 =>
 thn (ld1 h6 v7) fun v8 =>
 thn (lenS v8) fun v9 =>
 thn (nilV t0) fun v10 =>
 thn (padd 0 v10) fun v11 =>
 thn (ld1 h6 v11) fun v12 =>
 thn (abin Pr .geq 3 (.tmp 34) (.tmp 38) v9 v12) fun v13 =>
 Br v13 (
 A7_5 Q  h6) (
 A7_6 Q t1 t2 t7 h6)
) : A7_3 Q t0 t1 t2 t7 t8 h := by intro e he; simp only [List.map, List.cons.injEq, and_true] at he; obtain ⟨rfl, rfl, rfl, rfl, rfl⟩ := he; exact block_fn (L := L7) 200 (Eq.mp (by kernel_rfl) H)
theorem b7_4 {h : AH} {Q : Value → AH → Prop} {t0 t1 t2 t7 : Value} (H :
 resv h 9 fun h0 =>
 thn (nilV t7) fun v1 =>
 thn (ld1 h0 v1) fun v2 =>
 thn (lenS v2) fun v3 =>
 thn (nilV t0) fun v4 =>
 thn (padd 0 v4) fun v5 =>
 thn (ld1 h0 v5) fun v6 =>
 thn (abin Pr .geq 3 (.tmp 34) (.tmp 38) v3 v6) fun v7 =>
 Br v7 (
 A7_5 Q  h0) (
 A7_6 Q t1 t2 t7 h0)
) : A7_4 Q t0 t1 t2 t7 h := by intro e he; simp only [List.map, List.cons.injEq, and_true] at he; obtain ⟨rfl, rfl, rfl, rfl⟩ := he; exact block_fn (L := L7) 200 (Eq.mp (by kernel_rfl) H)
theorem b7_5 {h : AH} {Q : Value → AH → Prop} (H :
 Q (.int .i64 11) h
) : A7_5 Q  h := by intro e _; exact block_fn (L := L7) 200 (Eq.mp (by kernel_rfl) H)
theorem b7_6 {h : AH} {Q : Value → AH → Prop} {t1 t2 t7 : Value} (H :
 thn (nilV t7) fun v0 =>
 thn (ld1 h v0) fun v1 =>
 thn (abuild Pr 45 [(0, t1), (1, t2)]) fun v2 =>
 thn (afill (fun i => some (i * 2, 2)) [(.int .i64 0), (.int .i64 0)] [(0, v2)]) fun l3 =>
 alc h (.cells l3 45 (0, 0) true) fun h4 =>
 thn (appV 2 16 45 h4 v1 (slPtr 1 1 h.next)) fun r5 =>
 thn (nilV t7) fun v6 =>
 thn (stV r5.2 1 v6 r5.1) fun h7 =>
 Q (.int .i64 0) h7
) : A7_6 Q t1 t2 t7 h := by intro e he; simp only [List.map, List.cons.injEq, and_true] at he; obtain ⟨rfl, rfl, rfl⟩ := he; exact block_fn (L := L7) 200 (Eq.mp (by kernel_rfl) H)
theorem c7 {h : AH} {Q : Value → AH → Prop} {a0 a1 a2 : Value} (H : A7_0 Q a0 a1 a2 h) : Ok Pr K (.call 7 [a0, a1, a2]) h fun o h' => Q o.v h' :=
  ok_enter (by kernel_rfl) rfl (Eq.mp (by kernel_rfl) (H (fun i => ([a0, a1, a2] : List Value).getD i undef) rfl))

/-! ### 8 (*donjon/tags.Cache[int]).Victim: params 2, captured 0, results [tmp 4, tmp 5, tmp 6] -/
noncomputable def L8 : List (Option Nat × List Nat) := [(some 0, [0, 1]), (some 3, [6]), (some 4, [0, 7, 8]), (some 5, []), (some 6, [7])]
noncomputable def k8_0 : List Item := [.code (cd Pr 8 [])]
noncomputable def A8_0 (Q : Value → AH → Prop) (t0 t1 : Value) (h : AH) : Prop := Pt Pr K 8 none (retV Pr 8 Q) 38 [0, 1] k8_0 [] [t0, t1] h
noncomputable def k8_1 : List Item := [.code (cd Pr 8 [1, 1, 0, 1, 0]), .code (cd Pr 8 [1, 1, 1])]
noncomputable def A8_1 (Q : Value → AH → Prop) (t6 : Value) (h : AH) : Prop := Pt Pr K 8 none (retV Pr 8 Q) 38 [6] k8_1 [] [t6] h
noncomputable def k8_2 : List Item := [.code (cd Pr 8 [1, 1, 0, 1, 1]), .code (cd Pr 8 [1, 1, 1])]
noncomputable def A8_2 (Q : Value → AH → Prop) (t0 t7 t8 : Value) (h : AH) : Prop := Pt Pr K 8 none (retV Pr 8 Q) 38 [0, 7, 8] k8_2 [] [t0, t7, t8] h
noncomputable def k8_3 : List Item := [.code (cd Pr 8 [1, 1, 1, 0, 1, 0]), .code (cd Pr 8 [1, 1, 1, 1])]
noncomputable def A8_3 (Q : Value → AH → Prop) (h : AH) : Prop := Pt Pr K 8 none (retV Pr 8 Q) 38 [] k8_3 [] [] h
noncomputable def k8_4 : List Item := [.code (cd Pr 8 [1, 1, 1, 0, 1, 1]), .code (cd Pr 8 [1, 1, 1, 1])]
noncomputable def A8_4 (Q : Value → AH → Prop) (t7 : Value) (h : AH) : Prop := Pt Pr K 8 none (retV Pr 8 Q) 38 [7] k8_4 [] [t7] h
theorem b8_0 {h : AH} {Q : Value → AH → Prop} {t0 t1 : Value} (H :
 Ok Pr K (.call 12 [t0, t1]) h fun o0 h0 => -- (*donjon/tags.Cache[int]).find
 thn (extV 0 o0.v) fun v1 =>
 thn (extV 1 o0.v) fun v2 =>
 thn (extV 2 o0.v) fun v3 =>
 thn (abin Pr .neq 27 (.tmp 16) (.const (.int .i64 0)) v3 (.int .i64 0)) fun v4 =>
 Br v4 (
 A8_1 Q v3 h0) (
 A8_2 Q t0 v1 v2 h0)
) : A8_0 Q t0 t1 h := by intro e he; simp only [List.map, List.cons.injEq, and_true] at he; obtain ⟨rfl, rfl⟩ := he; exact block_fn (L := L8) 200 (Eq.mp (by kernel_rfl) H)
theorem b8_1 {h : AH} {Q : Value → AH → Prop} {t6 : Value} (H :
 Q (.tuple #[(.int .i64 0), (.bool false), t6]) h
) : A8_1 Q t6 h := by intro e he; simp only [List.map, List.cons.injEq, and_true] at he; obtain ⟨rfl⟩ := he; exact block_fn (L := L8) 200 (Eq.mp (by kernel_rfl) H)
theorem b8_2 {h : AH} {Q : Value → AH → Prop} {t0 t7 t8 : Value} (H :
 resv h 13 fun h0 =>
 thn (abin Pr .geq 3 (.tmp 19) (.const (.int .i64 0)) t8 (.int .i64 0)) fun v1 =>
 Br v1 (
 Br (.bool true) (
 A8_3 Q  h0) (
 A8_4 Q t7 h0)) (
 thn (nilV t7) fun v2 =>
 thn (ld1 h0 v2) fun v3 =>
 thn (lenS v3) fun v4 =>
 thn (nilV t0) fun v5 =>
 thn (padd 0 v5) fun v6 =>
 thn (ld1 h0 v6) fun v7 =>
 thn (abin Pr .lss 3 (.tmp 25) (.tmp 29) v4 v7) fun v8 =>
 Br v8 (
 A8_3 Q  h0) (
 A8_4 Q t7 h0))
) : A8_2 Q t0 t7 t8 h := by intro e he; simp only [List.map, List.cons.injEq, and_true] at he; obtain ⟨rfl, rfl, rfl⟩ := he; exact block_fn (L := L8) 200 (Eq.mp (by kernel_rfl) H)
theorem b8_3 {h : AH} {Q : Value → AH → Prop} (H :
 Q (.tuple #[(.int .i64 0), (.bool false), (.int .i64 0)]) h
) : A8_3 Q  h := by intro e _; exact block_fn (L := L8) 200 (Eq.mp (by kernel_rfl) H)
theorem b8_4 {h : AH} {Q : Value → AH → Prop} {t7 : Value} (H :
 thn (nilV t7) fun v0 =>
 thn (ld1 h v0) fun v1 =>
 thn (idxS 2 v1 (.int .i64 0)) fun v2 =>
 thn (padd 0 v2) fun v3 =>
 thn (ld1 h v3) fun v4 =>
 Q (.tuple #[v4, (.bool true), (.int .i64 0)]) h
) : A8_4 Q t7 h := by intro e he; simp only [List.map, List.cons.injEq, and_true] at he; obtain ⟨rfl⟩ := he; exact block_fn (L := L8) 200 (Eq.mp (by kernel_rfl) H)
theorem c8 {h : AH} {Q : Value → AH → Prop} {a0 a1 : Value} (H : A8_0 Q a0 a1 h) : Ok Pr K (.call 8 [a0, a1]) h fun o h' => Q o.v h' :=
  ok_enter (by kernel_rfl) rfl (Eq.mp (by kernel_rfl) (H (fun i => ([a0, a1] : List Value).getD i undef) rfl))

/-! ### 9 (*donjon/tags.Cache[int]).Drop: params 2, captured 0, results [tmp 4, tmp 5] -/
noncomputable def L9 : List (Option Nat × List Nat) := [(some 0, [0, 1]), (some 3, [4, 5]), (some 4, [4, 6, 7]), (some 5, [4]), (some 6, [6, 7])]
noncomputable def k9_0 : List Item := [.code (cd Pr 9 [])]
noncomputable def A9_0 (Q : Value → AH → Prop) (t0 t1 : Value) (h : AH) : Prop := Pt Pr K 9 none (retV Pr 9 Q) 39 [0, 1] k9_0 [] [t0, t1] h
noncomputable def k9_1 : List Item := [.code (cd Pr 9 [1, 1, 0, 1, 0]), .code (cd Pr 9 [1, 1, 1])]
noncomputable def A9_1 (Q : Value → AH → Prop) (t4 t5 : Value) (h : AH) : Prop := Pt Pr K 9 none (retV Pr 9 Q) 39 [4, 5] k9_1 [] [t4, t5] h
noncomputable def k9_2 : List Item := [.code (cd Pr 9 [1, 1, 0, 1, 1]), .code (cd Pr 9 [1, 1, 1])]
noncomputable def A9_2 (Q : Value → AH → Prop) (t4 t6 t7 : Value) (h : AH) : Prop := Pt Pr K 9 none (retV Pr 9 Q) 39 [4, 6, 7] k9_2 [] [t4, t6, t7] h
noncomputable def k9_3 : List Item := [.code (cd Pr 9 [1, 1, 1, 0, 1, 0]), .code (cd Pr 9 [1, 1, 1, 1])]
noncomputable def A9_3 (Q : Value → AH → Prop) (t4 : Value) (h : AH) : Prop := Pt Pr K 9 none (retV Pr 9 Q) 39 [4] k9_3 [] [t4] h
noncomputable def k9_4 : List Item := [.code (cd Pr 9 [1, 1, 1, 0, 1, 1]), .code (cd Pr 9 [1, 1, 1, 1])]
noncomputable def A9_4 (Q : Value → AH → Prop) (t6 t7 : Value) (h : AH) : Prop := Pt Pr K 9 none (retV Pr 9 Q) 39 [6, 7] k9_4 [] [t6, t7] h
theorem b9_0 {h : AH} {Q : Value → AH → Prop} {t0 t1 : Value} (H :
 Ok Pr K (.call 12 [t0, t1]) h fun o0 h0 => -- (*donjon/tags.Cache[int]).find
 thn (extV 0 o0.v) fun v1 =>
 thn (extV 1 o0.v) fun v2 =>
 thn (extV 2 o0.v) fun v3 =>
 thn (abin Pr .neq 27 (.tmp 15) (.const (.int .i64 0)) v3 (.int .i64 0)) fun v4 =>
 Br v4 (
 A9_1 Q (.int .i64 0) v3 h0) (
 A9_2 Q (.int .i64 0) v1 v2 h0)
) : A9_0 Q t0 t1 h := by intro e he; simp only [List.map, List.cons.injEq, and_true] at he; obtain ⟨rfl, rfl⟩ := he; exact block_fn (L := L9) 200 (Eq.mp (by kernel_rfl) H)
theorem b9_1 {h : AH} {Q : Value → AH → Prop} {t4 t5 : Value} (H :
 Q (.tuple #[t4, t5]) h
) : A9_1 Q t4 t5 h := by intro e he; simp only [List.map, List.cons.injEq, and_true] at he; obtain ⟨rfl, rfl⟩ := he; exact block_fn (L := L9) 200 (Eq.mp (by kernel_rfl) H)
theorem b9_2 {h : AH} {Q : Value → AH → Prop} {t4 t6 t7 : Value} (H :
 thn (abin Pr .lss 3 (.tmp 19) (.const (.int .i64 0)) t7 (.int .i64 0)) fun v0 =>
 Br v0 (
 A9_3 Q t4 h) (
 A9_4 Q t6 t7 h)
) : A9_2 Q t4 t6 t7 h := by intro e he; simp only [List.map, List.cons.injEq, and_true] at he; obtain ⟨rfl, rfl, rfl⟩ := he; exact block_fn (L := L9) 200 (Eq.mp (by kernel_rfl) H)
theorem b9_3 {h : AH} {Q : Value → AH → Prop} {t4 : Value} (H :
 Q (.tuple #[t4, (.int .i64 12)]) h
) : A9_3 Q t4 h := by intro e he; simp only [List.map, List.cons.injEq, and_true] at he; obtain ⟨rfl⟩ := he; exact block_fn (L := L9) 200 (Eq.mp (by kernel_rfl) H)
theorem b9_4 {h : AH} {Q : Value → AH → Prop} {t6 t7 : Value} (H :
 thn (nilV t6) fun v0 =>
 thn (ld1 h v0) fun v1 =>
 thn (idxS 2 v1 t7) fun v2 =>
 thn (padd 1 v2) fun v3 =>
 thn (ld1 h v3) fun v4 =>
 thn (nilV t6) fun v5 =>
 thn (ld1 h v5) fun v6 =>
 thn (abin Pr .add 3 (.tmp 34) (.const (.int .i64 1)) t7 (.int .i64 1)) fun v7 =>
 Ok Pr K (.call 13 [v6, t7, v7]) h fun o8 h8 => -- slices.Delete[[]donjon/tags.thing[int],donjon/tags.thing[int]]
 thn (nilV t6) fun v9 =>
 thn (stV h8 1 v9 o8.v) fun h10 =>
 Q (.tuple #[v4, (.int .i64 0)]) h10
) : A9_4 Q t6 t7 h := by intro e he; simp only [List.map, List.cons.injEq, and_true] at he; obtain ⟨rfl, rfl⟩ := he; exact block_fn (L := L9) 200 (Eq.mp (by kernel_rfl) H)
theorem c9 {h : AH} {Q : Value → AH → Prop} {a0 a1 : Value} (H : A9_0 Q a0 a1 h) : Ok Pr K (.call 9 [a0, a1]) h fun o h' => Q o.v h' :=
  ok_enter (by kernel_rfl) rfl (Eq.mp (by kernel_rfl) (H (fun i => ([a0, a1] : List Value).getD i undef) rfl))

/-! ### 10 (*donjon/tags.Cache[int]).Peek: params 2, captured 0, results [tmp 4, tmp 5] -/
noncomputable def L10 : List (Option Nat × List Nat) := [(some 0, [0, 1]), (some 3, [4, 5]), (some 4, [4, 6, 7]), (some 5, [4]), (some 6, [6, 7])]
noncomputable def k10_0 : List Item := [.code (cd Pr 10 [])]
noncomputable def A10_0 (Q : Value → AH → Prop) (t0 t1 : Value) (h : AH) : Prop := Pt Pr K 10 none (retV Pr 10 Q) 29 [0, 1] k10_0 [] [t0, t1] h
noncomputable def k10_1 : List Item := [.code (cd Pr 10 [1, 1, 0, 1, 0]), .code (cd Pr 10 [1, 1, 1])]
noncomputable def A10_1 (Q : Value → AH → Prop) (t4 t5 : Value) (h : AH) : Prop := Pt Pr K 10 none (retV Pr 10 Q) 29 [4, 5] k10_1 [] [t4, t5] h
noncomputable def k10_2 : List Item := [.code (cd Pr 10 [1, 1, 0, 1, 1]), .code (cd Pr 10 [1, 1, 1])]
noncomputable def A10_2 (Q : Value → AH → Prop) (t4 t6 t7 : Value) (h : AH) : Prop := Pt Pr K 10 none (retV Pr 10 Q) 29 [4, 6, 7] k10_2 [] [t4, t6, t7] h
noncomputable def k10_3 : List Item := [.code (cd Pr 10 [1, 1, 1, 0, 1, 0]), .code (cd Pr 10 [1, 1, 1, 1])]
noncomputable def A10_3 (Q : Value → AH → Prop) (t4 : Value) (h : AH) : Prop := Pt Pr K 10 none (retV Pr 10 Q) 29 [4] k10_3 [] [t4] h
noncomputable def k10_4 : List Item := [.code (cd Pr 10 [1, 1, 1, 0, 1, 1]), .code (cd Pr 10 [1, 1, 1, 1])]
noncomputable def A10_4 (Q : Value → AH → Prop) (t6 t7 : Value) (h : AH) : Prop := Pt Pr K 10 none (retV Pr 10 Q) 29 [6, 7] k10_4 [] [t6, t7] h
theorem b10_0 {h : AH} {Q : Value → AH → Prop} {t0 t1 : Value} (H :
 Ok Pr K (.call 12 [t0, t1]) h fun o0 h0 => -- (*donjon/tags.Cache[int]).find
 thn (extV 0 o0.v) fun v1 =>
 thn (extV 1 o0.v) fun v2 =>
 thn (extV 2 o0.v) fun v3 =>
 thn (abin Pr .neq 27 (.tmp 15) (.const (.int .i64 0)) v3 (.int .i64 0)) fun v4 =>
 Br v4 (
 A10_1 Q (.int .i64 0) v3 h0) (
 A10_2 Q (.int .i64 0) v1 v2 h0)
) : A10_0 Q t0 t1 h := by intro e he; simp only [List.map, List.cons.injEq, and_true] at he; obtain ⟨rfl, rfl⟩ := he; exact block_fn (L := L10) 200 (Eq.mp (by kernel_rfl) H)
theorem b10_1 {h : AH} {Q : Value → AH → Prop} {t4 t5 : Value} (H :
 Q (.tuple #[t4, t5]) h
) : A10_1 Q t4 t5 h := by intro e he; simp only [List.map, List.cons.injEq, and_true] at he; obtain ⟨rfl, rfl⟩ := he; exact block_fn (L := L10) 200 (Eq.mp (by kernel_rfl) H)
theorem b10_2 {h : AH} {Q : Value → AH → Prop} {t4 t6 t7 : Value} (H :
 thn (abin Pr .lss 3 (.tmp 19) (.const (.int .i64 0)) t7 (.int .i64 0)) fun v0 =>
 Br v0 (
 A10_3 Q t4 h) (
 A10_4 Q t6 t7 h)
) : A10_2 Q t4 t6 t7 h := by intro e he; simp only [List.map, List.cons.injEq, and_true] at he; obtain ⟨rfl, rfl, rfl⟩ := he; exact block_fn (L := L10) 200 (Eq.mp (by kernel_rfl) H)
theorem b10_3 {h : AH} {Q : Value → AH → Prop} {t4 : Value} (H :
 Q (.tuple #[t4, (.int .i64 12)]) h
) : A10_3 Q t4 h := by intro e he; simp only [List.map, List.cons.injEq, and_true] at he; obtain ⟨rfl⟩ := he; exact block_fn (L := L10) 200 (Eq.mp (by kernel_rfl) H)
theorem b10_4 {h : AH} {Q : Value → AH → Prop} {t6 t7 : Value} (H :
 thn (nilV t6) fun v0 =>
 thn (ld1 h v0) fun v1 =>
 thn (idxS 2 v1 t7) fun v2 =>
 thn (padd 1 v2) fun v3 =>
 thn (ld1 h v3) fun v4 =>
 Q (.tuple #[v4, (.int .i64 0)]) h
) : A10_4 Q t6 t7 h := by intro e he; simp only [List.map, List.cons.injEq, and_true] at he; obtain ⟨rfl, rfl⟩ := he; exact block_fn (L := L10) 200 (Eq.mp (by kernel_rfl) H)
theorem c10 {h : AH} {Q : Value → AH → Prop} {a0 a1 : Value} (H : A10_0 Q a0 a1 h) : Ok Pr K (.call 10 [a0, a1]) h fun o h' => Q o.v h' :=
  ok_enter (by kernel_rfl) rfl (Eq.mp (by kernel_rfl) (H (fun i => ([a0, a1] : List Value).getD i undef) rfl))

/-! ### 12 (*donjon/tags.Cache[int]).find: params 2, captured 0, results [tmp 4, tmp 5, tmp 6] -/
noncomputable def L12 : List (Option Nat × List Nat) := [(some 0, [0, 1]), (some 2, []), (some 3, [0, 3]), (some 4, []), (some 5, [0, 3]), (some 8, [4, 5, 7, 29, 30, 31]), (some 9, [4, 5, 7, 29, 30, 31]), (some 11, [4, 8]), (some 12, [4, 5, 7, 29, 30, 31])]
noncomputable def k12_0 : List Item := [.code (cd Pr 12 [])]
noncomputable def A12_0 (Q : Value → AH → Prop) (t0 t1 : Value) (h : AH) : Prop := Pt Pr K 12 none (retV Pr 12 Q) 43 [0, 1] k12_0 [] [t0, t1] h
noncomputable def k12_1 : List Item := [.code (cd Pr 12 [1, 0, 0, 1, 0]), .code (cd Pr 12 [1, 0, 1]), .inScope (cd Pr 12 [1, 0])]
noncomputable def A12_1 (Q : Value → AH → Prop) (h : AH) : Prop := Pt Pr K 12 none (retV Pr 12 Q) 43 [] k12_1 [] [] h
noncomputable def k12_2 : List Item := [.code (cd Pr 12 [1, 0, 0, 1, 1]), .code (cd Pr 12 [1, 0, 1]), .inScope (cd Pr 12 [1, 0])]
noncomputable def A12_2 (Q : Value → AH → Prop) (t0 t3 : Value) (h : AH) : Prop := Pt Pr K 12 none (retV Pr 12 Q) 43 [0, 3] k12_2 [] [t0, t3] h
noncomputable def k12_3 : List Item := [.code (cd Pr 12 [1, 0, 1, 0, 1, 0]), .code (cd Pr 12 [1, 0, 1, 1]), .inScope (cd Pr 12 [1, 0])]
noncomputable def A12_3 (Q : Value → AH → Prop) (h : AH) : Prop := Pt Pr K 12 none (retV Pr 12 Q) 43 [] k12_3 [] [] h
noncomputable def k12_4 : List Item := [.code (cd Pr 12 [1, 0, 1, 0, 1, 1]), .code (cd Pr 12 [1, 0, 1, 1]), .inScope (cd Pr 12 [1, 0])]
noncomputable def A12_4 (Q : Value → AH → Prop) (t0 t3 : Value) (h : AH) : Prop := Pt Pr K 12 none (retV Pr 12 Q) 43 [0, 3] k12_4 [] [t0, t3] h
noncomputable def k12_5 : List Item := [.code (cd Pr 12 [1, 0, 1, 1, 1, 1, 1, 0, 1, 0, 0]), .inLoop (cd Pr 12 [1, 0, 1, 1, 1, 1, 1, 0, 1, 0, 0]), .inBlock 0, .code (cd Pr 12 [1, 0, 1, 1, 1, 1, 1, 1]), .inScope (cd Pr 12 [1, 0])]
noncomputable def A12_5 (Q : Value → AH → Prop) (t4 t5 t7 t29 t30 t31 : Value) (h : AH) : Prop := Pt Pr K 12 none (retV Pr 12 Q) 43 [4, 5, 7, 29, 30, 31] k12_5 [] [t4, t5, t7, t29, t30, t31] h
noncomputable def k12_6 : List Item := [.code (cd Pr 12 [1, 0, 1, 1, 1, 1, 1, 0, 1, 0, 0, 1, 0, 0]), .code (cd Pr 12 [1, 0, 1, 1, 1, 1, 1, 0, 1, 0, 0, 1, 1]), .inLoop (cd Pr 12 [1, 0, 1, 1, 1, 1, 1, 0, 1, 0, 0]), .inBlock 0, .code (cd Pr 12 [1, 0, 1, 1, 1, 1, 1, 1]), .inScope (cd Pr 12 [1, 0])]
noncomputable def A12_6 (Q : Value → AH → Prop) (t4 t5 t7 t29 t30 t31 : Value) (h : AH) : Prop := Pt Pr K 12 none (retV Pr 12 Q) 43 [4, 5, 7, 29, 30, 31] k12_6 [] [t4, t5, t7, t29, t30, t31] h
noncomputable def k12_7 : List Item := [.code (cd Pr 12 [1, 0, 1, 1, 1, 1, 1, 0, 1, 0, 0, 1, 0, 1]), .code (cd Pr 12 [1, 0, 1, 1, 1, 1, 1, 0, 1, 0, 0, 1, 1]), .inLoop (cd Pr 12 [1, 0, 1, 1, 1, 1, 1, 0, 1, 0, 0]), .inBlock 0, .code (cd Pr 12 [1, 0, 1, 1, 1, 1, 1, 1]), .inScope (cd Pr 12 [1, 0])]
noncomputable def A12_7 (Q : Value → AH → Prop) (t4 t5 t7 t29 t30 t31 : Value) (h : AH) : Prop := Pt Pr K 12 none (retV Pr 12 Q) 43 [4, 5, 7, 29, 30, 31] k12_7 [] [t4, t5, t7, t29, t30, t31] h
noncomputable def k12_8 : List Item := [.code (cd Pr 12 [1, 0, 1, 1, 1, 1, 1, 0, 1, 0, 0, 1, 1, 0, 0, 1, 1, 0]), .inBlock 1, .code (cd Pr 12 [1, 0, 1, 1, 1, 1, 1, 0, 1, 0, 0, 1, 1, 1]), .inLoop (cd Pr 12 [1, 0, 1, 1, 1, 1, 1, 0, 1, 0, 0]), .inBlock 0, .code (cd Pr 12 [1, 0, 1, 1, 1, 1, 1, 1]), .inScope (cd Pr 12 [1, 0])]
noncomputable def A12_8 (Q : Value → AH → Prop) (t4 t8 : Value) (h : AH) : Prop := Pt Pr K 12 none (retV Pr 12 Q) 43 [4, 8] k12_8 [] [t4, t8] h
noncomputable def k12_9 : List Item := [.code (cd Pr 12 [1, 0, 1, 1, 1, 1, 1, 0, 1, 0, 0, 1, 1, 0, 0, 1, 1, 1]), .inBlock 1, .code (cd Pr 12 [1, 0, 1, 1, 1, 1, 1, 0, 1, 0, 0, 1, 1, 1]), .inLoop (cd Pr 12 [1, 0, 1, 1, 1, 1, 1, 0, 1, 0, 0]), .inBlock 0, .code (cd Pr 12 [1, 0, 1, 1, 1, 1, 1, 1]), .inScope (cd Pr 12 [1, 0])]
noncomputable def A12_9 (Q : Value → AH → Prop) (t4 t5 t7 t29 t30 t31 : Value) (h : AH) : Prop := Pt Pr K 12 none (retV Pr 12 Q) 43 [4, 5, 7, 29, 30, 31] k12_9 [] [t4, t5, t7, t29, t30, t31] h
theorem b12_0 {h : AH} {Q : Value → AH → Prop} {t0 t1 : Value} (H :
 thn (blkOf 3 t1) fun b0 =>
 alc h b0 fun h1 =>
 thn (abin Pr .eql 26 (.tmp 10) (.const (.pointer none)) t0 (.pointer none)) fun v2 =>
 Br v2 (
 A12_1 Q  h1) (
 A12_2 Q t0 (ptr0 h.next) h1)
) : A12_0 Q t0 t1 h := by intro e he; simp only [List.map, List.cons.injEq, and_true] at he; obtain ⟨rfl, rfl⟩ := he; exact block_fn (L := L12) 200 (Eq.mp (by kernel_rfl) H)
theorem b12_1 {h : AH} {Q : Value → AH → Prop} (H :
 Q (.tuple #[(.pointer none), (.int .i64 0), (.int .i64 2)]) h
) : A12_1 Q  h := by intro e _; exact block_fn (L := L12) 200 (Eq.mp (by kernel_rfl) H)
theorem b12_2 {h : AH} {Q : Value → AH → Prop} {t0 t3 : Value} (H :
 thn (ld1 h t3) fun v0 =>
 thn (abin Pr .lss 3 (.tmp 12) (.const (.int .i64 0)) v0 (.int .i64 0)) fun v1 =>
 Br v1 (
 A12_3 Q  h) (
 A12_4 Q t0 t3 h)
) : A12_2 Q t0 t3 h := by intro e he; simp only [List.map, List.cons.injEq, and_true] at he; obtain ⟨rfl, rfl⟩ := he; exact block_fn (L := L12) 200 (Eq.mp (by kernel_rfl) H)
theorem b12_3 {h : AH} {Q : Value → AH → Prop} (H :
 Q (.tuple #[(.pointer none), (.int .i64 0), (.int .i64 10)]) h
) : A12_3 Q  h := by intro e _; exact block_fn (L := L12) 200 (Eq.mp (by kernel_rfl) H)
theorem b12_4 {h : AH} {Q : Value → AH → Prop} {t0 t3 : Value} (H :
 resv h 14 fun h0 =>
 thn (nilV t0) fun v1 =>
 thn (padd 1 v1) fun v2 =>
 thn (ld1 h0 v2) fun v3 =>
 thn (ld1 h0 t3) fun v4 =>
 thn (nilV t0) fun v5 =>
 thn (padd 1 v5) fun v6 =>
 thn (ld1 h0 v6) fun v7 =>
 thn (lenS v7) fun v8 =>
 thn (abin Pr .rem 3 (.tmp 18) (.tmp 23) v4 v8) fun v9 =>
 thn (idxS 1 v3 v9) fun v10 =>
 thn (nilV v10) fun v11 =>
 thn (ld1 h0 v11) fun v12 =>
 thn (lenS v12) fun v13 =>
 A12_5 Q v10 (.int .i64 (-1)) (.func (.func 14) #[] #[t3]) v12 v13 (.int .i64 0) h0
) : A12_4 Q t0 t3 h := by intro e he; simp only [List.map, List.cons.injEq, and_true] at he; obtain ⟨rfl, rfl⟩ := he; exact block_fn (L := L12) 200 (Eq.mp (by kernel_rfl) H)
theorem b12_5 {h : AH} {Q : Value → AH → Prop} {t4 t5 t7 t29 t30 t31 : Value} (H :
 thn (abin Pr .lss 3 (.tmp 31) (.tmp 30) t31 t30) fun v0 =>
 Br v0 (
 A12_6 Q t4 t5 t7 t29 t30 t31 h) (
 A12_7 Q t4 t5 t7 t29 t30 t31 h)
) : A12_5 Q t4 t5 t7 t29 t30 t31 h := by intro e he; simp only [List.map, List.cons.injEq, and_true] at he; obtain ⟨rfl, rfl, rfl, rfl, rfl, rfl⟩ := he; exact block_fn (L := L12) 200 (Eq.mp (by kernel_rfl) H)
theorem b12_6 {h : AH} {Q : Value → AH → Prop} {t4 t5 t7 t29 t30 t31 : Value} (H :
 thn (idxS 2 t29 t31) fun v0 =>
 thn (ldN h 2 v0) fun v1 =>
 alc h (.cells [(.int .i64 0), (.int .i64 0)] 45 (0, 0) true) fun h2 =>
 thn (stV h2 2 (ptr0 h.next) v1) fun h3 =>
 thn (ldN h3 2 (ptr0 h.next)) fun v4 =>
 OkF Pr K t7 [v4] h3 fun w5 h5 =>
 Br w5 (
 A12_8 Q t4 t31 h5) (
 A12_9 Q t4 t5 t7 t29 t30 t31 h5)
) : A12_6 Q t4 t5 t7 t29 t30 t31 h := by intro e he; simp only [List.map, List.cons.injEq, and_true] at he; obtain ⟨rfl, rfl, rfl, rfl, rfl, rfl⟩ := he; exact block_fn (L := L12) 200 (Eq.mp (by kernel_rfl) H)
theorem b12_7 {h : AH} {Q : Value → AH → Prop} {t4 t5 t7 t29 t30 t31 : Value} (H :
 Q (.tuple #[t4, t5, (.int .i64 0)]) h
) : A12_7 Q t4 t5 t7 t29 t30 t31 h := by intro e he; simp only [List.map, List.cons.injEq, and_true] at he; obtain ⟨rfl, rfl, rfl, rfl, rfl, rfl⟩ := he; exact block_fn (L := L12) 200 (Eq.mp (by kernel_rfl) H)
theorem b12_8 {h : AH} {Q : Value → AH → Prop} {t4 t8 : Value} (H :
 Q (.tuple #[t4, t8, (.int .i64 0)]) h
) : A12_8 Q t4 t8 h := by intro e he; simp only [List.map, List.cons.injEq, and_true] at he; obtain ⟨rfl, rfl⟩ := he; exact block_fn (L := L12) 200 (Eq.mp (by kernel_rfl) H)
theorem b12_9 {h : AH} {Q : Value → AH → Prop} {t4 t5 t7 t29 t30 t31 : Value} (H :
 thn (abin Pr .add 3 (.tmp 31) (.const (.int .i64 1)) t31 (.int .i64 1)) fun v0 =>
 A12_5 Q t4 t5 t7 t29 t30 v0 h
) : A12_9 Q t4 t5 t7 t29 t30 t31 h := by intro e he; simp only [List.map, List.cons.injEq, and_true] at he; obtain ⟨rfl, rfl, rfl, rfl, rfl, rfl⟩ := he; exact block_fn (L := L12) 200 (Eq.mp (by kernel_rfl) H)
theorem c12 {h : AH} {Q : Value → AH → Prop} {a0 a1 : Value} (H : A12_0 Q a0 a1 h) : Ok Pr K (.call 12 [a0, a1]) h fun o h' => Q o.v h' :=
  ok_enter (by kernel_rfl) rfl (Eq.mp (by kernel_rfl) (H (fun i => ([a0, a1] : List Value).getD i undef) rfl))

/-! ### 13 slices.Delete[[]donjon/tags.thing[int],donjon/tags.thing[int]]: params 3, captured 0, results [tmp 6] -/
noncomputable def L13 : List (Option Nat × List Nat) := [(some 0, [0, 1, 2]), (some 3, [0]), (some 4, [0, 1, 2])]
noncomputable def k13_0 : List Item := [.code (cd Pr 13 [])]
noncomputable def A13_0 (Q : Value → AH → Prop) (t0 t1 t2 : Value) (h : AH) : Prop := Pt Pr K 13 none (retV Pr 13 Q) 33 [0, 1, 2] k13_0 [] [t0, t1, t2] h
noncomputable def k13_1 : List Item := [.code (cd Pr 13 [1, 1, 0, 1, 0]), .code (cd Pr 13 [1, 1, 1])]
noncomputable def A13_1 (Q : Value → AH → Prop) (t0 : Value) (h : AH) : Prop := Pt Pr K 13 none (retV Pr 13 Q) 33 [0] k13_1 [] [t0] h
noncomputable def k13_2 : List Item := [.code (cd Pr 13 [1, 1, 0, 1, 1]), .code (cd Pr 13 [1, 1, 1])]
noncomputable def A13_2 (Q : Value → AH → Prop) (t0 t1 t2 : Value) (h : AH) : Prop := Pt Pr K 13 none (retV Pr 13 Q) 33 [0, 1, 2] k13_2 [] [t0, t1, t2] h
theorem b13_0 {h : AH} {Q : Value → AH → Prop} {t0 t1 t2 : Value} (H :
 thn (lenS t0) fun v0 =>
 thn (aslice Pr h 42 t0 (some t1) (some t2) (some v0)) fun v1 =>
 thn (abin Pr .eql 3 (.tmp 14) (.tmp 15) t1 t2) fun v2 =>
 Br v2 (
 A13_1 Q t0 h) (
 A13_2 Q t0 t1 t2 h)
) : A13_0 Q t0 t1 t2 h := by intro e he; simp only [List.map, List.cons.injEq, and_true] at he; obtain ⟨rfl, rfl, rfl⟩ := he; exact block_fn (L := L13) 200 (Eq.mp (by kernel_rfl) H)
theorem b13_1 {h : AH} {Q : Value → AH → Prop} {t0 : Value} (H :
 Q t0 h
) : A13_1 Q t0 h := by intro e he; simp only [List.map, List.cons.injEq, and_true] at he; obtain ⟨rfl⟩ := he; exact block_fn (L := L13) 200 (Eq.mp (by kernel_rfl) H)
theorem b13_2 {h : AH} {Q : Value → AH → Prop} {t0 t1 t2 : Value} (H :
 thn (lenS t0) fun v0 =>
 resv h 8 fun h1 =>
 thn (aslice Pr h1 42 t0 none (some t1) none) fun v2 =>
 thn (aslice Pr h1 42 t0 (some t2) none none) fun v3 =>
 thn (appV 2 16 45 h1 v2 v3) fun r4 =>
 thn (lenS r4.1) fun v5 =>
 thn (aslice Pr r4.2 42 r4.1 (some v5) (some v0) none) fun v6 =>
 thn (clearV [(.int .i64 0), (.int .i64 0)] r4.2 v6) fun r7 =>
 Q r4.1 r7.2
) : A13_2 Q t0 t1 t2 h := by intro e he; simp only [List.map, List.cons.injEq, and_true] at he; obtain ⟨rfl, rfl, rfl⟩ := he; exact block_fn (L := L13) 200 (Eq.mp (by kernel_rfl) H)
theorem c13 {h : AH} {Q : Value → AH → Prop} {a0 a1 a2 : Value} (H : A13_0 Q a0 a1 a2 h) : Ok Pr K (.call 13 [a0, a1, a2]) h fun o h' => Q o.v h' :=
  ok_enter (by kernel_rfl) rfl (Eq.mp (by kernel_rfl) (H (fun i => ([a0, a1, a2] : List Value).getD i undef) rfl))

/-! ### 14 (*donjon/tags.Cache[int]).find$1: params 1, captured 1, results [tmp 3] -/
noncomputable def L14 : List (Option Nat × List Nat) := [(some 0, [0, 1])]
noncomputable def k14_0 : List Item := [.code (cd Pr 14 [])]
noncomputable def A14_0 (Q : Value → AH → Prop) (t0 t1 : Value) (h : AH) : Prop := Pt Pr K 14 none (retV Pr 14 Q) 8 [0, 1] k14_0 [] [t0, t1] h
theorem b14_0 {h : AH} {Q : Value → AH → Prop} {t0 t1 : Value} (H :
 thn (blkOf 45 t0) fun b0 =>
 alc h b0 fun h1 =>
 thn (padd 0 (ptr0 h.next)) fun v2 =>
 thn (ld1 h1 v2) fun v3 =>
 thn (ld1 h1 t1) fun v4 =>
 thn (abin Pr .eql 3 (.tmp 5) (.tmp 6) v3 v4) fun v5 =>
 Q v5 h1
) : A14_0 Q t0 t1 h := by intro e he; simp only [List.map, List.cons.injEq, and_true] at he; obtain ⟨rfl, rfl⟩ := he; exact block_fn (L := L14) 200 (Eq.mp (by kernel_rfl) H)
theorem c14 {h : AH} {Q : Value → AH → Prop} {a0 a1 : Value} (H : A14_0 Q a0 a1 h) : Ok Pr K (.call 14 [a0, a1]) h fun o h' => Q o.v h' :=
  ok_enter (by kernel_rfl) rfl (Eq.mp (by kernel_rfl) (H (fun i => ([a0, a1] : List Value).getD i undef) rfl))

end Go.Proofs.Ytflmoocllahjnaa
