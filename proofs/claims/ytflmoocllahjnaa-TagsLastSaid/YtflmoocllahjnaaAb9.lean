/- The abstract machine: its operations are the model's. -/
import Derived.Test.YtflmoocllahjnaaAb8
namespace Go.Ab
open Go.RowKit
variable {P : Program} {B : Nat} {ρ : Rho} {h : AH} {w : World}

theorem ARel.map {α : Type} {f g : α → Value} (hfg : ∀ x, VRel ρ (f x) (g x)) (a : Array α) : ARel ρ (a.map f) (a.map g) := by
  rw [ARel_iff]; simp only [Array.toList_map]; exact LRel.map_ev hfg _

set_option maxHeartbeats 1000000 in
theorem light_sound (hi : Inv P B ρ h w) {ev ev' : Operand → Value} (hev : ∀ x, VRel ρ (ev x) (ev' x)) (o : Oper) {v : Value} (hv : alight P ev h o.op = some v) :
    ∃ v', (execOp ev' o).run P w = .ok (.value v') w ∧ VRel ρ v v' := by
  obtain ⟨dst, op, ty, pos, after, guard⟩ := o
  simp only at hv
  cases op with
  | move x => simp only [alight, Option.some.injEq] at hv; subst hv; exact ⟨_, rfl, hev x⟩
  | assign x => simp only [alight, Option.some.injEq] at hv; subst hv; exact ⟨_, rfl, hev x⟩
  | pick c a b =>
    simp only [alight] at hv
    split at hv
    · rename_i t hc
      have h1 := hev c
      rw [hc] at h1
      simp only [VRel] at h1
      simp only [Option.some.injEq] at hv; subst hv
      refine ⟨if t then ev' a else ev' b, ?_, by cases t <;> simp [hev]⟩
      simp [execOp, h1, asBool]
    · cases hv
  | build t parts =>
    simp only [alight] at hv
    obtain ⟨v', hr, hrel⟩ := build_sound (w := w) (parts' := parts.map fun p => (p.1, ev' p.2)) (by
      simp only [Array.toList_map]; exact PRel.map (f := fun p : Nat × Operand => ev p.2) (g := fun p => ev' p.2) (k := fun p => p.1) (fun p => hev p.2) _) hv
    refine ⟨v', ?_, hrel⟩
    show (do pure (Next.value (← Instr.build t (parts.map fun (i, x) => (i, ev' x)))) : Sem Next).run P w = _
    simp only [Sem.run_bind]
    rw [show (parts.map fun (x : Nat × Operand) => (x.1, ev' x.2)) = parts.map (fun p => (p.1, ev' p.2)) from rfl, hr]
    rfl
  | load t a =>
    simp only [alight] at hv
    split at hv
    · rename_i a0 ha
      have h1 := hev a
      rw [ha] at h1
      obtain ⟨v', hr, hrel⟩ := load_sound hi h1 hv
      exact ⟨v', by simp [execOp, hr], hrel⟩
    · cases hv
  | nilCheck x =>
    simp only [alight] at hv
    split at hv
    · rename_i a ha
      have h1 := hev x
      rw [ha] at h1
      simp only [Option.some.injEq] at hv; subst hv
      have h2 := h1
      simp only [VRel] at h1
      obtain ⟨b, s, hb, he⟩ := h1
      exact ⟨ev' x, by simp [execOp, he], h2⟩
    · rename_i f a b ha
      have h1 := hev x
      rw [ha] at h1
      simp only [Option.some.injEq] at hv; subst hv
      have h2 := h1
      simp only [VRel, FRel] at h1
      obtain ⟨_, _, _, rfl, _, _, he⟩ := h1
      exact ⟨ev' x, by simp [execOp, he], h2⟩
    · rename_i f a b ha
      have h1 := hev x
      rw [ha] at h1
      simp only [Option.some.injEq] at hv; subst hv
      have h2 := h1
      simp only [VRel, FRel] at h1
      obtain ⟨_, _, _, ⟨_, _, _, rfl⟩, _, _, he⟩ := h1
      exact ⟨ev' x, by simp [execOp, he], h2⟩
    · cases hv
  | binOp op t x y yt =>
    simp only [alight] at hv
    obtain ⟨v', hr, hrel⟩ := bin_sound (P := P) (w := w) (hev x) (hev y) hv
    refine ⟨v', ?_, hrel⟩
    show (do pure (Next.value (← (do eqGuard op t x y (ev' x) (ev' y); binOp op t (ev' x) (ev' y)))) : Sem Next).run P w = _
    rw [Sem.run_bind, hr]
    rfl
  | unOp op t x =>
    simp only [alight] at hv
    split at hv
    · rename_i k n hx
      have h1 := hev x
      rw [hx] at h1
      simp only [VRel] at h1
      simp only [Option.some.injEq] at hv; subst hv
      exact ⟨.int k (k.wrap (0 - n)), by simp [execOp, h1, Op.unary, Op.intArith], by simp only [VRel]⟩
    · rename_i b hx
      have h1 := hev x
      rw [hx] at h1
      simp only [VRel] at h1
      simp only [Option.some.injEq] at hv; subst hv
      exact ⟨.bool !b, by simp [execOp, h1, Op.unary], by simp only [VRel]⟩
    · cases hv
  | convert s d x =>
    simp only [alight] at hv
    split at hv
    · rename_i ds k _ n hs hd hx
      have h1 := hev x
      rw [hx] at h1
      simp only [VRel] at h1
      simp only [Option.some.injEq] at hv; subst hv
      exact ⟨.int k (k.wrap n), by simp [execOp, h1, convert, run_underlying hs, run_underlying hd, Conv.intToInt], by simp only [VRel]⟩
    · rename_i z hs hd hx
      have h1 := hev x
      rw [hx] at h1
      simp only [VRel] at h1
      simp only [Option.some.injEq] at hv; subst hv
      exact ⟨.string z, by simp [execOp, h1, convert, run_underlying hs, run_underlying hd], by simp only [VRel]⟩
    · cases hv
  | makeInterface t x =>
    simp only [alight] at hv
    split at hv
    · cases hv
    · rename_i d hd hni
      simp only [Option.some.injEq] at hv; subst hv
      refine ⟨.iface t (ev' x), ?_, by simp only [VRel]; exact ⟨_, hev x, rfl⟩⟩
      have : P.concrete t = true := by
        unfold Program.concrete
        rw [hni]
        cases d <;> first | rfl | exact absurd rfl (hd _)
      simp [execOp, run_makeInterface w t (ev' x) this]
    · cases hv
  | makeFunc fn first captured =>
    simp only [alight] at hv
    split at hv
    · rename_i f
      simp only [Option.some.injEq] at hv; subst hv
      refine ⟨.func (.func f) (first.map ev') (captured.map ev'), by simp [execOp, Instr.makeFunc], ?_⟩
      simp only [VRel, FRel]
      exact ⟨_, _, _, rfl, ARel.map hev _, ARel.map hev _, rfl⟩
    · cases hv
  | slice t x lo hi_ mx =>
    simp only [alight] at hv
    obtain ⟨v', hr, hrel⟩ := slice_sound hi (hev x) (ORel.map hev lo) (ORel.map hev hi_) (ORel.map hev mx) hv
    exact ⟨v', by simp [execOp, hr], hrel⟩
  | fieldAddr s x f =>
    simp only [alight] at hv
    split at hv
    · rename_i fs a hd hx
      have h1 := hev x
      rw [hx] at h1
      simp only [VRel] at h1
      obtain ⟨b, sp, hb, he⟩ := h1
      split at hv
      · rename_i fd hf
        split at hv
        · cases hv
        · rename_i hn
          simp only [Option.some.injEq] at hv; subst hv
          obtain ⟨i, hinf, _⟩ := info_of_cells hn
          refine ⟨.pointer (some (Addr.add ⟨b, a.off, a.spot⟩ fd.offset)), ?_, ?_⟩
          · simp [execOp, he, Instr.fieldAt, run_underlying hd, hf, Instr.sureAddr, fieldPlace, size_run hinf, hn]
          · simp only [VRel]
            refine ⟨b, sp, ?_, ?_⟩
            · unfold Addr.add; split <;> exact hb
            · unfold Addr.add; split <;> rfl
      · cases hv
    · cases hv
  | field t x f =>
    simp only [alight] at hv
    split at hv
    · rename_i fs cs hd hx
      have h1 := hev x
      rw [hx] at h1
      simp only [VRel] at h1
      obtain ⟨cs', hc, he⟩ := h1
      split at hv
      · rename_i fd hf
        obtain ⟨v', hr, hrel⟩ := part_run (P := P) (w := w) hv (ARel_iff.1 hc)
        exact ⟨v', by simp [execOp, he, Instr.field, run_underlying hd, hf, asAgg, hr], hrel⟩
      · cases hv
    · cases hv
  | indexAddr t x i =>
    simp only [alight] at hv
    split at hv
    · rename_i n e a k j hd hx hix
      have h1 := hev x
      have h2 := hev i
      rw [hx] at h1
      rw [hix] at h2
      simp only [VRel] at h1 h2
      obtain ⟨b, sp, hb, he⟩ := h1
      split at hv
      · rename_i hc
        simp only [Option.some.injEq] at hv; subst hv
        obtain ⟨inf, hinf⟩ := Option.isSome_iff_exists.1 hc.2.2
        refine ⟨.pointer (some (Addr.add ⟨b, a.off, a.spot⟩ (j.toNat * P.cellsOf e))), ?_, ?_⟩
        · simp [execOp, he, h2, Instr.indexAt, asIntOf, run_underlying hd, Instr.sureAddr, hc.1, hc.2.1, size_run hinf]
        · simp only [VRel]
          refine ⟨b, sp, ?_, ?_⟩
          · unfold Addr.add; split <;> exact hb
          · unfold Addr.add; split <;> rfl
      · cases hv
    · rename_i e a n c k j hd hx hix
      have h1 := hev x
      have h2 := hev i
      rw [hx] at h1
      rw [hix] at h2
      split at hv
      · rename_i hc
        obtain ⟨ab, ao, asp⟩ := a
        obtain rfl : asp = none := hc.2.2.2
        simp only [VRel] at h1 h2
        obtain ⟨b, sp, c', hb, _, _, he⟩ := h1
        simp only [Option.some.injEq] at hv; subst hv
        obtain ⟨inf, hinf⟩ := Option.isSome_iff_exists.1 hc.2.2.1
        refine ⟨.pointer (some (Addr.add ⟨b, ao, none⟩ (j.toNat * P.cellsOf e))), ?_, ?_⟩
        · simp [execOp, he, h2, Instr.indexAt, asIntOf, run_underlying hd, hc.1, hc.2.1, size_run hinf]
        · rw [add_none, add_none]
          simp only [VRel]
          exact ⟨b, sp, hb, rfl⟩
      · cases hv
    · cases hv
  | index t x i =>
    simp only [alight] at hv
    split at hv
    · rename_i n e cs k j hd hx hix
      have h1 := hev x
      have h2 := hev i
      rw [hx] at h1
      rw [hix] at h2
      simp only [VRel] at h1 h2
      obtain ⟨cs', hc', he⟩ := h1
      split at hv
      · rename_i hc
        obtain ⟨inf, hinf⟩ := Option.isSome_iff_exists.1 hc.2.2
        obtain ⟨v', hr, hrel⟩ := part_run (P := P) (w := w) hv (ARel_iff.1 hc')
        exact ⟨v', by simp [execOp, he, h2, Instr.index, asIntOf, run_underlying hd, hc.1, hc.2.1, size_run hinf, hr], hrel⟩
      · cases hv
    · rename_i s k j hd hx hix
      have h1 := hev x
      have h2 := hev i
      rw [hx] at h1
      rw [hix] at h2
      simp only [VRel] at h1 h2
      split at hv
      · rename_i hc
        simp only [Option.map_eq_some_iff] at hv
        obtain ⟨u, hu, rfl⟩ := hv
        exact ⟨.int .u8 u.toNat, by simp [execOp, h1, h2, Instr.index, asIntOf, run_underlying hd, hc, hu], by simp only [VRel]⟩
      · cases hv
    · cases hv
  | extract t i =>
    simp only [alight] at hv
    split at hv
    · rename_i vs ht
      have h1 := hev t
      rw [ht] at h1
      simp only [VRel] at h1
      obtain ⟨vs', hc, he⟩ := h1
      obtain ⟨v', hv', hrel⟩ := (ARel_iff.1 hc).get hv
      exact ⟨v', by simp only [Array.getElem?_toList] at hv'; simp [execOp, he, Instr.extract, hv'], hrel⟩
    · cases hv
  | _ => simp only [alight] at hv; cases hv

/-! ### One block more -/
theorem map_range0 (f : Nat → Value) : (Array.range 0).map f = #[] := by rw [Array.range_zero']; simp
theorem zeroCells_eq {z : List Value} {size : Nat} (hz : z.length = size) (n : Nat) : ((Array.range (n * size)).map fun i => (⟨z⟩ : Array Value)[i % (⟨z⟩ : Array Value).size]!) = ⟨zerosA z n⟩ := by
  apply Array.ext'
  simp only [Array.toList_map, Array.toList_range]
  show (List.range (n * size)).map (fun i => (⟨z⟩ : Array Value)[i % z.length]!) = zerosA z n
  subst hz
  induction n with
  | zero => simp [zerosA]
  | succ n ih =>
    rw [Nat.succ_mul, List.range_add, List.map_append, ih]
    unfold zerosA
    rw [List.replicate_succ', List.flatten_append]
    congr 1
    simp only [List.flatten_cons, List.flatten_nil, List.append_nil, List.map_map]
    apply List.ext_getElem
    · simp
    · intro j h1 h2
      simp at h1 h2
      simp only [List.getElem_map, List.getElem_range, Function.comp]
      have hm : (n * z.length + j) % z.length = j := by rw [Nat.mul_comm, Nat.mul_add_mod, Nat.mod_eq_of_lt (by omega)]
      rw [hm]
      simp [h1]
theorem zerosA_rel {z : List Value} (hz : LRel ρ z z) (n : Nat) : LRel ρ (zerosA z n) (zerosA z n) := by
  unfold zerosA
  induction n with
  | zero => exact LRel.nil
  | succ n ih => rw [List.replicate_succ, List.flatten_cons]; exact hz.append ih

/-- what a new block's number is to the model -/
theorem alloc_sound {ev ev' : Operand → Value} (hev : ∀ x, VRel ρ (ev x) (ev' x)) (o : Oper) {b : Blk} {f : Nat → Value} (hv : aalloc P ev o.op = some (b, f)) :
    ∃ (o' : Obj) (g : Nat → Value), BRel P ρ 0 b o' ∧ (execOp ev' o).run P w = .ok (.value (g w.heap.size)) (w.alloc o') ∧ ∀ (ρ' : Rho) i s, ρ' i = some (w.heap.size, s) → VRel ρ' (f i) (g w.heap.size) := by
  obtain ⟨dst, op, ty, pos, after, guard⟩ := o
  simp only at hv
  cases op with
  | alloc e =>
    simp only [aalloc, Option.map_eq_some_iff] at hv
    obtain ⟨z, hz, hv⟩ := hv
    cases hv
    obtain ⟨i, zv, hi, _, hzr, hzc, hzl, hzz⟩ := zero_run (w := w) hz
    refine ⟨.cells zv.cells e, fun n => .pointer (some ⟨n, 0, none⟩), ⟨zv.cells, rfl, ?_, ?_, fun _ => rfl⟩, ?_, ?_⟩
    · rw [hzc, List.take_of_length_le (Nat.le_refl _)]; exact hzz ρ
    · rw [← hzc]; simp
    · simp [execOp, Instr.alloc, hzr, newVar, newRow]
    · intro ρ' i s hr; simp only [VRel]; exact ⟨_, _, hr, rfl⟩
  | box e x =>
    simp only [aalloc, Option.map_eq_some_iff] at hv
    obtain ⟨l, hl, hv⟩ := hv
    cases hv
    unfold cellsOfV at hl
    split at hl
    · cases hl
    · rename_i ht
      cases hl
      have hc := (hev x).cells (by simpa using ht)
      have hcl := hc.length
      refine ⟨.cells (ev' x).cells e, fun n => .pointer (some ⟨n, 0, none⟩), ⟨_, rfl, ?_, ?_, fun _ => rfl⟩, ?_, ?_⟩
      · rw [← hcl, List.take_of_length_le (Nat.le_refl _)]; exact hc
      · simp at hcl ⊢; omega
      · simp [execOp, Instr.box, newVar, newRow]
      · intro ρ' i s hr; simp only [VRel]; exact ⟨_, _, hr, rfl⟩
  | buildSlice t len parts =>
    simp only [aalloc] at hv
    split at hv
    · rename_i e hd
      split at hv
      · rename_i z hz
        obtain ⟨i, zv, hi, _, hzr, hzc, hzl, hzz⟩ := zero_run (w := w) hz
        split at hv
        · rename_i hle
          simp only [Option.map_eq_some_iff] at hv
          obtain ⟨l, hl, hv⟩ := hv
          cases hv
          obtain ⟨r', hr', hrel⟩ := fill_rel _ (parts.map fun p => (p.1, ev' p.2)).toList _ _ l (by
            simp only [Array.toList_map]; exact PRel.map (f := fun p : Nat × Operand => ev p.2) (g := fun p => ev' p.2) (k := fun p => p.1) (fun p => hev p.2) _) (zerosA_rel (hzz ρ) len) hl
          have hrl := hrel.length
          have hz' : zv.cells = ⟨z⟩ := by rw [← hzc]
          refine ⟨.cells ⟨r'⟩ e, fun n => .slice (some ⟨n, 0, none⟩) len len, ⟨_, rfl, ?_, ?_, fun _ => rfl⟩, ?_, ?_⟩
          · rw [← hrl, List.take_of_length_le (Nat.le_refl _)]; exact hrel
          · show l.length + _ ≤ r'.length; omega
          · have hle' : ¬ len * P.cellsOf e > 2 ^ 24 := by omega
            have hr2 : Instr.fill (fun i => some (i * P.cellsOf e, P.cellsOf e)) ⟨zerosA z len⟩ (parts.map fun (x : Nat × Operand) => (x.1, ev' x.2)).toList = some ⟨r'⟩ := hr'
            show (do pure (Next.value (← Instr.buildSlice t len (parts.map fun (i, x) => (i, ev' x)))) : Sem Next).run P w = _
            simp only [Instr.buildSlice, Sem.run_bind, run_underlying hd, Result.andThen_ok, size_run hi, hle', if_false]
            have hc := zeroCells_eq hzl len
            by_cases h0 : len * P.cellsOf e = 0
            · have hnil : (⟨zerosA z len⟩ : Array Value) = #[] := by rw [← hc, h0, map_range0]
              rw [hnil] at hr2
              simp only [h0, if_true, Sem.run_bind, Sem.run_pure, Result.andThen_ok]
              rw [map_range0, hr2]
              simp [newRow]
            · simp only [h0, if_false, Sem.run_bind, hzr, Sem.run_pure, Result.andThen_ok, hz']
              rw [hc, hr2]
              simp [newRow]
          · intro ρ' i s hr; simp only [VRel]; exact ⟨_, _, _, hr, Nat.le_refl _, Nat.le_add_right _ _, rfl⟩
        · cases hv
      · cases hv
    · cases hv
  | makeSlice t l c =>
    simp only [aalloc] at hv
    split at hv
    · rename_i e k1 ll k2 cc hd hl hc
      split at hv
      · rename_i z hz
        obtain ⟨i, zv, hi, _, hzr, hzc, hzl, hzz⟩ := zero_run (w := w) hz
        split at hv
        · rename_i hcond
          obtain ⟨h0, h1, h2, h3⟩ := hcond
          simp only [Option.some.injEq, Prod.mk.injEq] at hv
          obtain ⟨rfl, rfl⟩ := hv
          have hl' := hev l
          have hc' := hev c
          rw [hl] at hl'
          rw [hc] at hc'
          simp only [VRel] at hl' hc'
          have hz' : zv.cells = ⟨z⟩ := by rw [← hzc]
          have hb : i.bytes = P.bytesOf e := by simp [Program.bytesOf, hi]
          refine ⟨.cells ⟨zerosA z cc.toNat⟩ e, fun n => .slice (some ⟨n, 0, none⟩) ll.toNat cc.toNat, ⟨_, rfl, ?_, ?_, fun _ => rfl⟩, ?_, ?_⟩
          · rw [List.take_of_length_le (Nat.le_refl _)]; exact zerosA_rel (hzz ρ) _
          · show (zerosA z cc.toNat).length + _ ≤ (zerosA z cc.toNat).length; omega
          · have hwl : IntKind.i64.wrap ll = ll := IntWalk.i64_in _ ⟨by omega, by omega⟩
            have hwc : IntKind.i64.wrap cc = cc := IntWalk.i64_in _ ⟨by omega, by omega⟩
            have t1 : (typeInfo e).run P w = .ok i w := by simp [typeInfo, hi]
            have hno : ((decide (cc < 0) || decide ((i.bytes : Int) * cc > 2 ^ 48)) || decide (ll < 0) || decide (ll > cc)) = false := by
              rw [hb]
              have e1 : decide (cc < 0) = false := by simp; omega
              have e2 : decide ((P.bytesOf e : Int) * cc > 2 ^ 48) = false := by simp; omega
              have e3 : decide (ll < 0) = false := by simp; omega
              have e4 : decide (ll > cc) = false := by simp; omega
              rw [e1, e2, e3, e4]; rfl
            simp only [execOp, hl', hc', Instr.makeSlice, Sem.run_bind, run_underlying hd, Result.andThen_ok, asInt, asIntOf, Sem.run_pure, t1, hwl, hwc, hno, Bool.false_eq_true, if_false, run_askRoom, size_run hi]
            have hcz := zeroCells_eq hzl cc.toNat
            by_cases h0 : cc.toNat * P.cellsOf e = 0
            · have hnil : (⟨zerosA z cc.toNat⟩ : Array Value) = #[] := by rw [← hcz, h0, map_range0]
              rw [hnil]
              simp only [h0, if_true, Sem.run_bind, Sem.run_pure, Result.andThen_ok]
              rw [map_range0]
              simp [newRow]
            · simp only [h0, if_false, Sem.run_bind, hzr, Sem.run_pure, Result.andThen_ok, hz']
              rw [hcz]
              simp [newRow]
          · intro ρ' i s hr; simp only [VRel]; exact ⟨_, _, _, hr, Nat.le_refl _, Nat.le_add_right _ _, rfl⟩
        · cases hv
      · cases hv
    · cases hv
  | _ => simp only [aalloc] at hv; cases hv

end Go.Ab
