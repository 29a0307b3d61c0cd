/- A part of the proof of the statement that this folder claims, with no condition: definitions and lemmas on which the last text leans. -/
import Derived.Test.YtflmoocllahjnaaTgB
namespace Go.Proofs.Ytflmoocllahjnaa
open Go Go.Ab Go.RowKit

theorem add_none {b o n : Nat} : Addr.add ⟨b, o, none⟩ n = ⟨b, o + n, none⟩ := by simp [Addr.add]
theorem aslice_in {P : Program} {h : AH} {t e : TypeId} {b o len cap m hh l : Nat} {lo hi mx : Option Value} (hu : P.underlying t = some (.slice e)) (hinf : (P.info? e).isSome = true)
    (hm : bnd mx cap cap = some m) (hx : (hi.isNone && mx.isSome) = false) (hhi : bnd hi len m = some hh) (hlo : bnd lo 0 hh = some l) (hhm : hh ≤ m) (hl : l < m) :
    aslice P h t (.slice (some ⟨b, o, none⟩) len cap) lo hi mx = some (.slice (some ⟨b, o + l * P.cellsOf e, none⟩) (hh - l) (m - l)) := by
  simp only [aslice, hu, Option.isSome_none, Bool.false_eq_true, if_false, hm, hx, hhi, hlo, hinf, hhm, and_self, if_true]
  rw [if_neg (by omega), if_neg (by omega), add_none]
theorem aslice_end {P : Program} {h : AH} {t e : TypeId} {b o len cap : Nat} {c : List Value} {fz : Nat × Nat} {lo hi : Option Value} (hu : P.underlying t = some (.slice e)) (hinf : (P.info? e).isSome = true)
    {hh : Nat} (hhi : bnd hi len cap = some hh) (hlo : bnd lo 0 hh = some cap) (hhm : hh ≤ cap) (hg : h.get b = some (.cells c e fz false)) :
    aslice P h t (.slice (some ⟨b, o, none⟩) len cap) lo hi none = some dangling := by
  have hm : bnd (none : Option Value) cap cap = some cap := rfl
  simp only [aslice, hu, Option.isSome_none, Bool.and_false, Bool.false_eq_true, if_false, hm, hhi, hlo, hinf, hhm, and_self, if_true, Option.isNone_none]
  simp [exactAt, hg]
theorem bnd_int {k : IntKind} {i d m : Nat} (h : i ≤ m) : bnd (some (.int k i)) d m = some i := by
  simp [bnd, h]
theorem zeros_one {z : List Value} : zerosA z 1 = z := by simp [zerosA]
theorem app_fits {h : AH} {sz bytes e b o len cap n : Nat} {x : Value} {new c : List Value} {fx : Bool} {e' : TypeId} (hn : lenOfV x = some n) (hnew : srcCells h sz n x = some new) (hall : new.all cellB = true) (hlen : new.length = n * sz) (hfit : len + n ≤ cap)
    (hb : h.base ≤ b) (hg : h.get b = some (.cells c e' (0, 0) fx)) (hc : o + len * sz + n * sz ≤ c.length) (h0 : 0 < n) :
    appV sz bytes e h (.slice (some ⟨b, o, none⟩) len cap) x = some (.slice (some ⟨b, o, none⟩) (len + n) cap, h.set b (some (.cells (splice c (o + len * sz) new) e' (0, 0) fx))) := by
  have h3 : storeCellsAt h (Addr.add ⟨b, o, none⟩ (len * sz)) new = some (h.set b (some (.cells (splice c (o + len * sz) new) e' (0, 0) fx))) := by
    rw [add_none]
    simp only [storeCellsAt, Option.isSome_none, Bool.false_or, hall, Bool.not_true, Bool.or_false, decide_eq_true_eq, hg]
    rw [if_neg (by omega), if_pos ⟨trivial, by omega⟩]
  simp only [appV, hn, hnew, hall, hlen, Bool.not_true, bne_self_eq_false, Bool.or_false, Bool.false_eq_true, if_false, hfit, if_true, Option.isSome_none, Nat.ne_of_gt h0, h3]
  rfl
theorem app_none {h : AH} {sz bytes e len cap : Nat} {a : Addr} {x : Value} (hn : lenOfV x = some 0) (hnew : srcCells h sz 0 x = some []) (ha : a.spot = none) (hfit : len ≤ cap) :
    appV sz bytes e h (.slice (some a) len cap) x = some (.slice (some a) len cap, h) := by
  simp [appV, hn, hnew, hfit, ha]

theorem under42 : Pr.underlying 42 = some (.slice 45) := by kernel_rfl
theorem info45 : (Pr.info? 45).isSome = true := by kernel_rfl
theorem cells45 : Pr.cellsOf 45 = 2 := by kernel_rfl

theorem enc_erase {l : Th} {i : Nat} : enc (l.eraseIdx i) = (enc l).take (2 * i) ++ (enc l).drop (2 * (i + 1)) := by
  rw [enc_take, enc_drop, ← enc_append, List.eraseIdx_eq_take_drop_succ]

theorem delete_ok {h : AH} {b cap i : Nat} {rest : List Value} {l : Th} (hi : i < l.length) (hgb : h.get b = some (.cells (enc l ++ rest) 45 (0, 0) false)) (hcap : 2 * l.length + rest.length = 2 * cap) (hb : h.base ≤ b) (hbn : b < h.next) (w : h.base ≤ h.next) {Q : Value → AH → Prop}
    (k : ∀ h', To (· = b) h h' → h'.get b = some (.cells (enc (l.eraseIdx i) ++ (.int .i64 0 :: .int .i64 0 :: rest)) 45 (0, 0) false) → Q (.slice (some ⟨b, 0, none⟩) (l.length - 1) cap) h') :
    Ok Pr K (.call 13 [.slice (some ⟨b, 0, none⟩) l.length cap, .int .i64 i, .int .i64 ((i : Int) + 1)]) h fun o h' => Q o.v h' := by
  have e1 : ((i : Int) + 1) = ((i + 1 : Nat) : Int) := by omega
  rw [e1]
  refine c13 (b13_0 ?_)
  rw [lenS_slice, thn_some, aslice_in under42 info45 (bnd_int (by omega)) rfl (bnd_int (by omega)) (bnd_int (by omega)) (by omega) (by omega), thn_some, abin_int, aint_eql, thn_some, Br_beq]
  refine ⟨fun he => by omega, fun _ => b13_2 ?_⟩
  rw [lenS_slice, thn_some]
  refine resv_to w fun h1 t1 n1 g1 => ?_
  have g1b := g1 b; rw [hgb] at g1b
  have hb1 : h1.base ≤ b := by rw [t1.base]; exact hb
  rw [aslice_in under42 info45 (l := 0) rfl rfl (bnd_int (by omega)) rfl (by omega) (by omega), thn_some]
  simp only [Nat.zero_mul, Nat.add_zero, Nat.sub_zero]
  -- what comes of the append
  have happ : ∀ (p : Value × AH → Prop), (∀ h2, To (· = b) h h2 → h2.next = h1.next → h2.base = h1.base → h2.get b = some (.cells ((enc (l.eraseIdx i) ++ (enc l).drop (2 * (l.length - 1))) ++ rest) 45 (0, 0) false) → p (.slice (some ⟨b, 0, none⟩) (l.length - 1) cap, h2)) →
      thn (aslice Pr h1 42 (.slice (some ⟨b, 0, none⟩) l.length cap) (some (.int .i64 (i + 1 : Nat))) none none) fun v3 => thn (appV 2 16 45 h1 (.slice (some ⟨b, 0, none⟩) i cap) v3) p := by
    intro p hp
    rcases Nat.lt_or_ge (i + 1) cap with hlt | hge
    · rw [aslice_in under42 info45 rfl rfl rfl (bnd_int (by omega)) (by omega) hlt, thn_some, cells45]
      rcases Nat.lt_or_ge (i + 1) l.length with h2 | h2
      · have hsrc : srcCells h1 2 (l.length - (i + 1)) (.slice (some ⟨b, 0 + (i + 1) * 2, none⟩) (l.length - (i + 1)) (cap - (i + 1))) = some ((enc l).drop (2 * (i + 1))) := by
          simp only [srcCells, loadCellsAt, Option.isSome_none, Bool.false_eq_true, if_false, g1b, Nat.le_refl, if_true]
          rw [if_neg (by omega), if_pos (by simp; omega)]
          congr 1
          rw [show 0 + (i + 1) * 2 = 2 * (i + 1) by omega, List.drop_append_of_le_length (by simp; omega), List.take_append_of_le_length (by simp; omega), List.take_of_length_le (by simp; omega)]
        rw [app_fits rfl hsrc (by rw [enc_drop]; exact enc_cells) (by simp; omega) (by omega) hb1 g1b (by simp; omega) (by omega), thn_some]
        have hset : (h1.set b (some (.cells (splice (enc l ++ rest) (0 + i * 2) ((enc l).drop (2 * (i + 1)))) 45 (0, 0) false))).get b = some (.cells (splice (enc l ++ rest) (0 + i * 2) ((enc l).drop (2 * (i + 1)))) 45 (0, 0) false) := by rw [AH.get_set hb1, if_pos rfl]
        have hsp : splice (enc l ++ rest) (0 + i * 2) ((enc l).drop (2 * (i + 1))) = (enc (l.eraseIdx i) ++ (enc l).drop (2 * (l.length - 1))) ++ rest := by
          unfold splice
          rw [enc_erase, show 0 + i * 2 = 2 * i by omega, List.take_append_of_le_length (by simp; omega)]
          have hd : 2 * i + ((enc l).drop (2 * (i + 1))).length = 2 * (l.length - 1) := by simp; omega
          rw [hd, List.drop_append_of_le_length (by simp; omega)]
          simp
        rw [hsp] at hset ⊢
        have := hp _ ⟨by simp [t1.base], by simp [n1], by simp; exact t1.wf, fun j hj hf => by rw [AH.get_set hb1, if_neg hf, g1]⟩ (by simp) (by simp) hset
        rw [show i + (l.length - (i + 1)) = l.length - 1 by omega]
        exact this
      · have hil : l.length = i + 1 := by omega
        rw [show l.length - (i + 1) = 0 by omega, app_none rfl (by simp [srcCells]) rfl (by omega), thn_some]
        have := hp h1 ⟨t1.base, t1.next, t1.wf, fun j hj _ => g1 j⟩ rfl rfl (by rw [g1b, enc_erase, hil, show 2 * (i + 1 - 1) = 2 * i by omega, List.append_assoc, List.drop_of_length_le (i := 2 * (i + 1)) (by simp; omega), List.append_nil, ← List.append_assoc, List.take_append_drop])
        rw [show l.length - 1 = i by omega] at this
        exact this
    · have hil : l.length = i + 1 := by omega
      have hc : cap = i + 1 := by omega
      rw [aslice_end under42 info45 rfl (by rw [hc]; exact bnd_int (by omega)) (by omega) g1b, thn_some, app_none rfl (by simp [srcCells, dangling]) rfl (by omega), thn_some]
      have := hp h1 ⟨t1.base, t1.next, t1.wf, fun j hj _ => g1 j⟩ rfl rfl (by rw [g1b, enc_erase, hil, show 2 * (i + 1 - 1) = 2 * i by omega, List.append_assoc, List.drop_of_length_le (i := 2 * (i + 1)) (by simp; omega), List.append_nil, ← List.append_assoc, List.take_append_drop])
      rw [show l.length - 1 = i by omega] at this
      exact this
  refine happ _ fun h2 t2 n2 b2 g2 => ?_
  simp only [lenS_slice, thn_some]
  rw [aslice_in under42 info45 rfl rfl (bnd_int (by omega)) (bnd_int (by omega)) (by omega) (by omega), thn_some, cells45]
  have hb2 : h2.base ≤ b := by rw [t2.base]; exact hb
  have hlast : (enc l).drop (2 * (l.length - 1)) = [.int .i64 l[l.length - 1].1, .int .i64 l[l.length - 1].2] := by
    rw [enc_drop, List.drop_eq_getElem_cons (by omega), List.drop_of_length_le (by omega)]
    rfl
  rw [hlast] at g2
  have hlen1 : (l.eraseIdx i).length = l.length - 1 := by rw [List.length_eraseIdx, if_pos hi]
  have hclr : clearV [.int .i64 0, .int .i64 0] h2 (.slice (some ⟨b, 0 + (l.length - 1) * 2, none⟩) (l.length - (l.length - 1)) (cap - (l.length - 1))) =
      some (.tuple #[], h2.set b (some (.cells (enc (l.eraseIdx i) ++ (.int .i64 0 :: .int .i64 0 :: rest)) 45 (0, 0) false))) := by
    rw [show l.length - (l.length - 1) = 1 by omega]
    simp only [clearV, Nat.one_ne_zero, if_false, zeros_one]
    simp only [storeCellsAt, Option.isSome_none, Bool.false_or, g2, Bool.or_eq_true, decide_eq_true_eq]
    rw [if_neg (by simp [cellB]; omega), if_pos ⟨trivial, by simp [hlen1]; omega⟩]
    simp only [Option.map_some, Option.some.injEq, Prod.mk.injEq, true_and]
    congr 3
    unfold splice
    have e3 : 0 + (l.length - 1) * 2 = (enc (l.eraseIdx i)).length := by rw [enc_length, hlen1]; omega
    rw [e3]
    generalize enc (l.eraseIdx i) = X
    simp [List.take_append, List.drop_append, List.append_assoc]
  rw [hclr, thn_some]
  refine k _ ⟨by simp [t2.base], by simp; exact t2.next, by simp; exact t2.wf, fun j hj hf => by rw [AH.get_set hb2, if_neg hf]; exact t2.keep j hj hf⟩ (by rw [AH.get_set hb2, if_pos rfl])

end Go.Proofs.Ytflmoocllahjnaa
