/- The judge is asked: what comes of it (a call that is handed on). -/
import Derived.Shelf.SlIterI.Nil
import Derived.Shelf.SortM.Plain
import Derived.Shelf.SortM.SortNone
import Derived.Ground.GgzProg
import Derived.Ground.SlgmProg
import Derived.Test.YtajjljbmfdboaaaGreatDoorChecked
import Derived.Test.YtajjljbmfdboaaaGreatDoorB7
import Derived.Test.YtajjljbmfdboaaaGreatDoorB4
import Derived.Tactics
import Derived.Tactics2
import Derived.Defers
import Derived.Recover
import Derived.Laws.Pointers
import Derived.OneCell
import Derived.Below
section
namespace Go.Proofs
open Go.Shelf
def Tryz.keysA_ren : Go.Shelf.Ren := ⟨fun | 7 => 123 | 10 => 170 | n => n, fun | 23 => 170 | 26 => 3 | 3 => 237 | 28 => 133 | 0 => 0 | 27 => 132 | 33 => 38 | 4 => 4 | n => n, fun | n => n⟩
theorem Tryz.keysA : Go.Proofs.SlLaysZI.n7 Tryz.prog Tryz.keysA_ren := {
  mixed := by kernel_rfl
  f7 := ⟨Tryz.f123.name, by decide, Tryz.func123.trans (congrArg some (by kernel_rfl))⟩
  f10 := ⟨Tryz.f170.name, by decide, Tryz.func170.trans (congrArg some (by kernel_rfl))⟩
  t0 := Tryz.underlying0
  a0 := Tryz.isAgg0
  z0 := Tryz.sizeOf0
  v0 := Tryz.zeroValue0
  t4 := Tryz.underlying4
  a4 := Tryz.isAgg4
  z4 := Tryz.sizeOf4
  v4 := Tryz.zeroValue4
  t23 := Tryz.underlying170
  a23 := Tryz.isAgg170
  z23 := Tryz.sizeOf170
  v23 := Tryz.zeroValue170
  t26 := Tryz.underlying3
  a26 := Tryz.isAgg3
  z26 := Tryz.sizeOf3
  v26 := Tryz.zeroValue3
  t27 := Tryz.underlying132
  a27 := Tryz.isAgg132
  z27 := Tryz.sizeOf132
  v27 := Tryz.zeroValue132
  t28 := Tryz.underlying133
  a28 := Tryz.isAgg133
  z28 := Tryz.sizeOf133
  v28 := Tryz.zeroValue133
  t33 := Tryz.underlying38
  a33 := Tryz.isAgg38
  z33 := Tryz.sizeOf38
  v33 := Tryz.zeroValue38 }
def Tryz.sortedA_ren : Go.Shelf.Ren := ⟨fun | 6 => 122 | 8 => 168 | 9 => 169 | 11 => 225 | 13 => 174 | 12 => 226 | 23 => 236 | 24 => 237 | 14 => 273 | 15 => 274 | 16 => 275 | 17 => 276 | 18 => 277 | 19 => 278 | 20 => 279 | 21 => 280 | 22 => 281 | 25 => 307 | 26 => 283 | 27 => 284 | 28 => 308 | 29 => 309 | 30 => 175 | 31 => 313 | n => n, fun | 26 => 3 | 28 => 133 | 24 => 60 | 0 => 0 | 3 => 3 | 37 => 327 | 48 => 375 | 50 => 377 | 4 => 4 | 40 => 369 | 39 => 368 | 45 => 51 | 5 => 5 | 9 => 9 | 51 => 415 | 55 => 280 | 57 => 434 | 58 => 435 | 33 => 38 | n => n, fun | n => n⟩
theorem Tryz.sortedA : Go.Proofs.SlLaysZI.n6 Tryz.prog Tryz.sortedA_ren := {
  mixed := by kernel_rfl
  f6 := ⟨Tryz.f122.name, by decide, Tryz.func122.trans (congrArg some (by kernel_rfl))⟩
  f8 := ⟨Tryz.f168.name, by decide, Tryz.func168.trans (congrArg some (by kernel_rfl))⟩
  f11 := ⟨Tryz.f225.name, by decide, Tryz.func225.trans (congrArg some (by kernel_rfl))⟩
  t0 := Tryz.underlying0
  a0 := Tryz.isAgg0
  z0 := Tryz.sizeOf0
  v0 := Tryz.zeroValue0
  t24 := Tryz.underlying60
  a24 := Tryz.isAgg60
  z24 := Tryz.sizeOf60
  v24 := Tryz.zeroValue60
  t26 := Tryz.underlying3
  a26 := Tryz.isAgg3
  z26 := Tryz.sizeOf3
  v26 := Tryz.zeroValue3
  t28 := Tryz.underlying133
  a28 := Tryz.isAgg133
  z28 := Tryz.sizeOf133
  v28 := Tryz.zeroValue133
  i26 := by kernel_rfl }
def Tryz.sortA_ren : Go.Shelf.Ren := ⟨fun | 5 => 169 | 8 => 174 | 7 => 226 | 19 => 236 | 20 => 237 | 10 => 273 | 11 => 274 | 12 => 275 | 13 => 276 | 14 => 277 | 15 => 278 | 16 => 279 | 17 => 280 | 18 => 281 | 30 => 307 | 31 => 283 | 32 => 284 | 33 => 308 | 34 => 309 | 35 => 175 | 40 => 313 | n => n, fun | 23 => 60 | 25 => 3 | 3 => 3 | 32 => 327 | 22 => 60 | 0 => 0 | 44 => 375 | 46 => 377 | 4 => 4 | 36 => 369 | 35 => 368 | 41 => 51 | 5 => 5 | 9 => 9 | 53 => 415 | 57 => 280 | 63 => 434 | 64 => 435 | n => n, fun | n => n⟩
theorem Tryz.sortA : Go.Proofs.SlLaysM.n5 Tryz.prog Tryz.sortA_ren := {
  mixed := by kernel_rfl
  f5 := ⟨Tryz.f169.name, by decide, Tryz.func169.trans (congrArg some (by kernel_rfl))⟩
  f7 := ⟨Tryz.f226.name, by decide, Tryz.func226.trans (congrArg some (by kernel_rfl))⟩
  f8 := Tryz.func174.trans (congrArg some (by kernel_rfl))
  f10 := ⟨Tryz.f273.name, by decide, Tryz.func273.trans (congrArg some (by kernel_rfl))⟩
  f11 := ⟨Tryz.f274.name, by decide, Tryz.func274.trans (congrArg some (by kernel_rfl))⟩
  f12 := ⟨Tryz.f275.name, by decide, Tryz.func275.trans (congrArg some (by kernel_rfl))⟩
  f13 := ⟨Tryz.f276.name, by decide, Tryz.func276.trans (congrArg some (by kernel_rfl))⟩
  f14 := ⟨Tryz.f277.name, by decide, Tryz.func277.trans (congrArg some (by kernel_rfl))⟩
  f15 := ⟨Tryz.f278.name, by decide, Tryz.func278.trans (congrArg some (by kernel_rfl))⟩
  f16 := ⟨Tryz.f279.name, by decide, Tryz.func279.trans (congrArg some (by kernel_rfl))⟩
  f17 := ⟨Tryz.f280.name, by decide, Tryz.func280.trans (congrArg some (by kernel_rfl))⟩
  f18 := ⟨Tryz.f281.name, by decide, Tryz.func281.trans (congrArg some (by kernel_rfl))⟩
  f19 := Tryz.func236.trans (congrArg some (by kernel_rfl))
  f20 := Tryz.func237.trans (congrArg some (by kernel_rfl))
  f30 := ⟨Tryz.f307.name, by decide, Tryz.func307.trans (congrArg some (by kernel_rfl))⟩
  f31 := Tryz.func283.trans (congrArg some (by kernel_rfl))
  f32 := Tryz.func284.trans (congrArg some (by kernel_rfl))
  f33 := ⟨Tryz.f308.name, by decide, Tryz.func308.trans (congrArg some (by kernel_rfl))⟩
  f34 := ⟨Tryz.f309.name, by decide, Tryz.func309.trans (congrArg some (by kernel_rfl))⟩
  f35 := ⟨Tryz.f175.name, by decide, Tryz.func175.trans (congrArg some (by kernel_rfl))⟩
  f40 := ⟨Tryz.f313.name, by decide, Tryz.func313.trans (congrArg some (by kernel_rfl))⟩
  t0 := Tryz.underlying0
  a0 := Tryz.isAgg0
  z0 := Tryz.sizeOf0
  v0 := Tryz.zeroValue0
  t3 := Tryz.underlying3
  a3 := Tryz.isAgg3
  z3 := Tryz.sizeOf3
  v3 := Tryz.zeroValue3
  t4 := Tryz.underlying4
  a4 := Tryz.isAgg4
  z4 := Tryz.sizeOf4
  v4 := Tryz.zeroValue4
  t5 := Tryz.underlying5
  a5 := Tryz.isAgg5
  z5 := Tryz.sizeOf5
  v5 := Tryz.zeroValue5
  t9 := Tryz.underlying9
  a9 := Tryz.isAgg9
  z9 := Tryz.sizeOf9
  v9 := Tryz.zeroValue9
  t22 := Tryz.underlying60
  a22 := Tryz.isAgg60
  z22 := Tryz.sizeOf60
  v22 := Tryz.zeroValue60
  t23 := Tryz.underlying60
  a23 := Tryz.isAgg60
  z23 := Tryz.sizeOf60
  v23 := Tryz.zeroValue60
  t25 := Tryz.underlying3
  a25 := Tryz.isAgg3
  z25 := Tryz.sizeOf3
  v25 := Tryz.zeroValue3
  t32 := Tryz.underlying327
  a32 := Tryz.isAgg327
  z32 := Tryz.sizeOf327
  v32 := Tryz.zeroValue327
  t35 := Tryz.underlying368
  a35 := Tryz.isAgg368
  z35 := Tryz.sizeOf368
  v35 := Tryz.zeroValue368
  t36 := Tryz.underlying369
  a36 := Tryz.isAgg369
  z36 := Tryz.sizeOf369
  v36 := Tryz.zeroValue369
  t41 := Tryz.underlying51
  a41 := Tryz.isAgg51
  z41 := Tryz.sizeOf51
  v41 := Tryz.zeroValue51
  t44 := Tryz.underlying375
  a44 := Tryz.isAgg375
  z44 := Tryz.sizeOf375
  v44 := Tryz.zeroValue375
  t46 := Tryz.underlying377
  a46 := Tryz.isAgg377
  z46 := Tryz.sizeOf377
  v46 := Tryz.zeroValue377
  t53 := Tryz.underlying415
  a53 := Tryz.isAgg415
  z53 := Tryz.sizeOf415
  v53 := Tryz.zeroValue415
  t57 := Tryz.underlying280
  a57 := Tryz.isAgg280
  z57 := Tryz.sizeOf280
  v57 := Tryz.zeroValue280
  t63 := Tryz.underlying434
  a63 := Tryz.isAgg434
  z63 := Tryz.sizeOf434
  v63 := Tryz.zeroValue434
  t64 := Tryz.underlying435
  a64 := Tryz.isAgg435
  z64 := Tryz.sizeOf435
  v64 := Tryz.zeroValue435 }
end Go.Proofs
end
section
namespace Go.Proofs
open Go.RowKit Go.Maps Go.Sort Go.Shelf
/-- slices.Sort's two contracts at this dump, at the fence that asks nothing. -/
theorem Tryz.sortsA (m : Nat) : AnyZI.SortsIn Tryz.prog Tryz.sortedA_ren Fence.wide m :=
  ⟨fun blk off cap ss W hH hblk hsz => callsIn_wide.2 (AnyM.slices_Sort_int Tryz.sortA blk off cap ss W hH hblk hsz),
   fun p cap W => callsIn_wide.2 (AnyM.slices_Sort_int_none Tryz.sortA p cap W)⟩
/-- what is handed back: the keys, sorted, in a new slice -/
theorem Tryz.sortedKeys {H : Type} (c b nn : Nat) (D0 : DataW H) (R : Value → Option (DataW H × List MemPlace)) (w : World) (hc : c < w.heap.size) (hm : w.cell? ⟨c, 0, none⟩ = some (.map (some b))) (hown : w.ownsMap Tryz.prog 3 R b nn D0) (hmax : Maps.size D0 ≤ maxLen) (hbytes : Maps.size D0 * 8 ≤ 140737488355328) :
    Calls Tryz.prog 122 #[.func (.func 170) #[] #[.pointer (some ⟨c, 0, none⟩)]] w fun e w' => ∃ (v : Value) (ss : List Int), e = .returned v ∧ ss.Perm (intKeys D0) ∧
      w'.ownsRow w.heap.size 3 1 v ss.length ((ss.mergeSort (fun x y => decide (x ≤ y))).map encZ) ∧ (v = .slice none 0 0 ↔ ss = []) ∧ Below w.heap.size w w' := by
  refine (callsIn_wide (n := 5)).1 ?_
  have hseq : SeqGives Fence.wide 2 Tryz.prog 170 #[.pointer (some ⟨c, 0, none⟩)] encZ (fun ss => ss.Perm (intKeys D0)) (Maps.size D0) w :=
    AnyZI.keys_gives (ρ := Tryz.keysA_ren) { Tryz.keysA with } Fence.wide _ trivial rfl (by omega) c b nn D0 _ hc hm hown
  exact AnyZI.sorted_in Tryz.sortedA Fence.wide 5 trivial trivial trivial trivial rfl (by omega) (Tryz.sortsA _) (enters_of Tryz.func169 (by kernel_rfl) rfl) 170 #[.pointer (some ⟨c, 0, none⟩)] trivial (enters_of Tryz.func170 (by kernel_rfl) rfl) _ _ hmax hbytes _ hseq
end Go.Proofs
end
section
namespace Go.Proofs.YtajjljbmfdboaaaGreatDoor
open Go Go.Ab Go.RowKit
theorem catch_idle (p q : Addr) (w : World) :
    CallsD Tryz.prog 270 #[.pointer (some p), .pointer (some q)] .returning w fun e u' w' => e = .returned (.tuple #[]) ∧ u' = .returning ∧ w' = w := by
  refine callsD_of_wpS Tryz.func270 rfl fun c₀ cs hu => ?_
  apply wpS_seq
  apply wpS_region
  simp [wpOpsS, go_sem, recoverD, hu, Tryz.ntmps270, Exit.thenS]
  refine wpS_cond (t := false) (by simp [Act.eval, Array.replicate]) ?_
  simp only [Bool.false_eq_true, if_false]
  refine wpS_of_wp (wp_skip ?_)
  cases c₀
  simp_all [bodyPostS, results, Tryz.results270]
theorem two_cells {w w' : World} (hk : Keeps w.heap.size ((w.alloc (.cells #[.int .i64 0] 3)).alloc (.cells #[.bool false] 4)) w') (n : Int) (b : Bool) :
    w'.cell? ⟨w.heap.size, 0, none⟩ = some (.int .i64 0) ∧ w'.frozen? ⟨w.heap.size, 0, none⟩ = false ∧
    (w'.setCell ⟨w.heap.size, 0, none⟩ (.int .i64 n)).cell? ⟨w.heap.size + 1, 0, none⟩ = some (.bool false) ∧ (w'.setCell ⟨w.heap.size, 0, none⟩ (.int .i64 n)).frozen? ⟨w.heap.size + 1, 0, none⟩ = false ∧
    ((w'.setCell ⟨w.heap.size, 0, none⟩ (.int .i64 n)).setCell ⟨w.heap.size + 1, 0, none⟩ (.bool b)).cell? ⟨w.heap.size, 0, none⟩ = some (.int .i64 n) ∧
    ((w'.setCell ⟨w.heap.size, 0, none⟩ (.int .i64 n)).setCell ⟨w.heap.size + 1, 0, none⟩ (.bool b)).cell? ⟨w.heap.size + 1, 0, none⟩ = some (.bool b) := by
  have e0 : w'.heap[w.heap.size]? = some (.cells #[.int .i64 0] 3 (0, 0)) := (hk.keep _ (Nat.le_refl _) (by simp; omega)).trans (by show ((w.heap.push _).push _)[w.heap.size]? = _; rw [Array.getElem?_push, if_neg (by simp), Array.getElem?_push, if_pos rfl])
  have e1 : w'.heap[w.heap.size + 1]? = some (.cells #[.bool false] 4 (0, 0)) := (hk.keep _ (by omega) (by simp)).trans (by show ((w.heap.push _).push _)[w.heap.size + 1]? = _; rw [Array.getElem?_push, if_pos (by simp)])
  have e2 : (w'.setCell ⟨w.heap.size, 0, none⟩ (.int .i64 n)).heap[w.heap.size]? = some (.cells #[.int .i64 n] 3 (0, 0)) := one_setCell e0
  have e3 : (w'.setCell ⟨w.heap.size, 0, none⟩ (.int .i64 n)).heap[w.heap.size + 1]? = some (.cells #[.bool false] 4 (0, 0)) := (Below.heap_setCell _ _ _ _ (by simp)).trans e1
  have e4 : ((w'.setCell ⟨w.heap.size, 0, none⟩ (.int .i64 n)).setCell ⟨w.heap.size + 1, 0, none⟩ (.bool b)).heap[w.heap.size]? = some (.cells #[.int .i64 n] 3 (0, 0)) := (Below.heap_setCell _ _ _ _ (by simp)).trans e2
  have e5 : ((w'.setCell ⟨w.heap.size, 0, none⟩ (.int .i64 n)).setCell ⟨w.heap.size + 1, 0, none⟩ (.bool b)).heap[w.heap.size + 1]? = some (.cells #[.bool b] 4 (0, 0)) := one_setCell e3
  exact ⟨by simp [World.cell?, e0], by simp [World.frozen?, e0], by simp [World.cell?, e3], by simp [World.frozen?, e3], by simp [World.cell?, e4], by simp [World.cell?, e5]⟩
set_option maxRecDepth 100000 in
theorem judged_fwd (v x l : Value) (w : World) (S : World → Prop) (n : Int) (b : Bool) (hc : Calls Tryz.prog 334 #[v, x, l] ((w.alloc (.cells #[.int .i64 0] 3)).alloc (.cells #[.bool false] 4)) (fun e w' => e = .returned (.tuple #[.int .i64 n, .bool b]) ∧ Keeps w.heap.size ((w.alloc (.cells #[.int .i64 0] 3)).alloc (.cells #[.bool false] 4)) w' ∧ S w')) :
    Calls Tryz.prog 219 #[.iface 311 v, x, l] w fun e w' => e = .returned (.tuple #[.int .i64 n, .bool b]) ∧ ∃ w2, S w2 ∧ Garb w.heap.size (w.heap.size + 2) w2 w' := by
  have hmf : ∀ (fn : Fn) (first cap : Array Value) (w : World), (Instr.makeFunc fn first cap).run Tryz.prog w = .ok (.func fn first cap) w := fun _ _ _ _ => rfl
  have hm : ∀ w : World, (method 556 311 v "May").run Tryz.prog w = .ok (334, v) w := fun _ => by kernel_rfl
  go_enter_defers Tryz.func219, Tryz.ntmps219
  go_wp2_with (go_at_call 334; refine hc.mono ?_; rintro e w' ⟨rfl, hk, hS⟩; obtain ⟨c1, z1, c2, z2, c4, c5⟩ := two_cells hk n b)
  refine leaves_cons (f := 270) (args := #[.pointer (some ⟨w.heap.size, 0, none⟩), .pointer (some ⟨w.heap.size + 1, 0, none⟩)]) (by simp) (by simp [go_sem]) ?_
  refine (catch_idle ⟨w.heap.size, 0, none⟩ ⟨w.heap.size + 1, 0, none⟩ _).mono ?_
  rintro e u' w'' ⟨rfl, rfl, rfl⟩
  simp [Leaves, settle, results, Tryz.results219, go_sem, c4, c5]
  refine ⟨w', hS, ⟨fun i _ h => ?_, ?_, rfl, rfl, rfl⟩⟩
  · rw [Below.heap_setCell _ _ _ _ (by simp; omega), Below.heap_setCell _ _ _ _ (by simp; omega)]
  · simp
end Go.Proofs.YtajjljbmfdboaaaGreatDoor
end
