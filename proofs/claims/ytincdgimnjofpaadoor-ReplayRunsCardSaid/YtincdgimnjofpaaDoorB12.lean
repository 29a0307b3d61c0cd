/- ReplayRuns: for every input the law answers true, and each argument reads afterwards as it read before. No condition but the listed variables' text. -/
import Derived.Test.YtincdgimnjofpaaDoorB11
import Derived.Test.YtincdgimnjofpaaDoorB9
import Derived.Test.YtincdgimnjofpaaDoorB10
import Derived.Test.YtincdgimnjofpaaDoorTie
import Derived.Test.YtincdgimnjofpaaDoorCards
import Derived.LaidMore
import Derived.SevenTiedAt
import Derived.Lay
import Derived.LaidOnce
import Derived.ChangeMaps5
section
namespace Go.Proofs.YtincdgimnjofpaaDoor
open Go Go.Ab Go.Hm Go.Is Go.At Go.RowKit
def Gl (w : World) : Prop := (∃ e z, w.heap[0]? = some (.cells ⟨limE⟩ e z)) ∧ (∃ e z, w.heap[1]? = some (.cells ⟨opsE⟩ e z))
theorem gl_ok {w : World} {e0 e1 : TypeId} {z0 z1 : Nat × Nat} (h0 : w.heap[0]? = some (.cells ⟨limE⟩ e0 z0)) (h1 : w.heap[1]? = some (.cells ⟨opsE⟩ e1 z1)) : GlOk Pr 2 (glR e0 z0 e1 z1) w := by
  intro i o hi ho
  unfold glR at ho
  split at ho
  · rename_i e; subst e
    cases ho
    refine ⟨_, h0, fun ρ => ⟨⟨limE⟩, rfl, ?_, by simp, fun _ => ⟨rfl, rfl⟩⟩⟩
    rw [List.drop_zero, List.take_of_length_le (by simp)]
    exact plainL_rel _ (by rfl)
  · split at ho
    · rename_i e; subst e
      cases ho
      refine ⟨_, h1, fun ρ => ⟨⟨opsE⟩, rfl, ?_, by simp, fun _ => ⟨rfl, rfl⟩⟩⟩
      rw [List.drop_zero, List.take_of_length_le (by simp)]
      exact plainL_rel _ (by rfl)
    · cases ho
theorem gl_keep {B : Nat} (hB : 2 ≤ B) {w w' : World} (h : Below B w w') : Gl w → Gl w' := fun ⟨⟨e, z, h0⟩, e', z', h1⟩ =>
  ⟨⟨e, z, (h.block 0 (by omega)).trans h0⟩, e', z', (h.block 1 (by omega)).trans h1⟩
noncomputable def ctx0 (B : Nat) (hB : 2 ≤ B) : Ctx Pr B K0 where
  G := Gl
  keep := fun w w' h => gl_keep hB h
  call := fun f args v w hk hg => by
    unfold K0 at hk
    cases hk
  fwd := fun f args g bs hk => by
    unfold K0 at hk
    cases hk
  host := fun f args F hk => by
    unfold K0 at hk
    cases hk
theorem size_of {w : World} (h : Gl w) : 2 ≤ w.heap.size := by
  obtain ⟨_, e, z, h1⟩ := h
  exact (Array.getElem?_eq_some_iff.1 h1).1
theorem awake_calls {w : World} (hg : Gl w) : Calls Pr 5 #[] w fun e w' => e = .returned (.bool true) ∧ Below w.heap.size w w' := by
  have hg' := hg
  have h2 := size_of hg
  obtain ⟨⟨e0, z0, h0⟩, e1, z1, h1⟩ := hg
  exact closed_call rfl (run_of_runF (awake_run e0 z0 e1 z1)) (ctx0 w.heap.size h2) hg' (reads_of (gl := glR e0 z0 e1 z1) (rs := []) (g := 2) (by rw [globals2]; exact Nat.le_refl _) h2 (gl_ok h0 h1) (fun r hr => by cases hr))
noncomputable def ctx (B : Nat) (hB : 2 ≤ B) : Ctx Pr B K := (ctx0 B hB).add 5 (.bool true) rfl fun w hg => awake_calls hg
theorem own : ownKnob Tryd.prog.godebug = none := by kernel_rfl
theorem laidOut : laidOutB Tryd.prog = true := by kernel_rfl
theorem gLim : Tryd.prog.globalNamed "donjon/place.limits" = some 0 := by kernel_rfl
theorem gOps : Tryd.prog.globalNamed "donjon/isa.ops" = some 1 := by kernel_rfl
theorem tLim : (Tryd.prog.globals[0]?).map (·.type) = some 89 := by kernel_rfl
theorem tOps : (Tryd.prog.globals[1]?).map (·.type) = some 128 := by kernel_rfl
theorem gl_of {W : World} {l : List (String × DataW Unit)} (hp : (l.all fun x => x.2.handleName?.isNone) = true) (h : laidMetH Tryd.prog l W) (m0 : ("donjon/place.limits", Rows.laid_donjon_place_limits) ∈ l)
    (m1 : ("donjon/isa.ops", Rows.laid_donjon_isa_ops) ∈ l) : Gl W := by
  obtain ⟨e0, z0, h0⟩ := laid_block (l := limE) 8 hp h m0 gLim tLim (by kernel_rfl)
  obtain ⟨e1, z1, h1⟩ := laid_block (l := opsE) 8 hp h m1 gOps tOps (by kernel_rfl)
  exact ⟨⟨e0, z0, h0⟩, ⟨e1, z1, h1⟩⟩
/-! ### The arguments -/
abbrev i7 : List (Option IntKind) := [some .i64, some .i64, some .i64, some .i64, some .i64, some .i64, some .i64]
abbrev i4 : List (Option IntKind) := [some .i64, some .i64, some .i64, some .i64]
abbrev i1 : List (Option IntKind) := [some .i64]
theorem cfgFlat : flatT Tryd.prog 8 23 = some i7 := by kernel_rfl
theorem insFlat : flatT Tryd.prog 8 52 = some i4 := by kernel_rfl
theorem intFlat : flatT Tryd.prog 8 3 = some i1 := by kernel_rfl
theorem evFlat : flatT Tryd.prog 8 44 = some i7 := by kernel_rfl
theorem insCells : Tryd.prog.cellsOf 52 = i4.length := by kernel_rfl
theorem intCells : Tryd.prog.cellsOf 3 = i1.length := by kernel_rfl
theorem evCells : Tryd.prog.cellsOf 44 = i7.length := by kernel_rfl
theorem cfgCells : Tryd.prog.cellsOf 23 = 7 := by kernel_rfl
theorem slCells : Tryd.prog.cellsOf 25 = 1 := by kernel_rfl
theorem slCells2 : Tryd.prog.cellsOf 50 = 1 := by kernel_rfl
theorem slCells3 : Tryd.prog.cellsOf 24 = 1 := by kernel_rfl
theorem mcfgCells : Tryd.prog.cellsOf 27 = 11 := by kernel_rfl
theorem seven_of {l : List Value} (h0 : Flat i7 l) : ∃ a b c d e f g : Int, l = [I a, I b, I c, I d, I e, I f, I g] := by
  obtain ⟨a, l1, e1, h1⟩ := flat_int h0
  obtain ⟨b, l2, e2, h2⟩ := flat_int h1
  obtain ⟨c, l3, e3, h3⟩ := flat_int h2
  obtain ⟨d, l4, e4, h4⟩ := flat_int h3
  obtain ⟨e, l5, e5, h5⟩ := flat_int h4
  obtain ⟨f, l6, e6, h6⟩ := flat_int h5
  obtain ⟨g, l7, e7, h7⟩ := flat_int h6
  have e8 := flat_nil h7
  subst e8 e7 e6 e5 e4 e3 e2 e1
  exact ⟨a, b, c, d, e, f, g, rfl⟩
theorem four_of {l : List Value} (h0 : Flat i4 l) : ∃ x : Ins, l = x.enc ∧ True := by
  obtain ⟨a, l1, e1, h1⟩ := flat_int h0
  obtain ⟨b, l2, e2, h2⟩ := flat_int h1
  obtain ⟨c, l3, e3, h3⟩ := flat_int h2
  obtain ⟨d, l4, e4, h4⟩ := flat_int h3
  have e5 := flat_nil h4
  subst e5 e4 e3 e2 e1
  exact ⟨⟨a, b, c, d⟩, rfl, trivial⟩
theorem ev_of {l : List Value} (h0 : Flat i7 l) : ∃ x : Ev, l = x.enc ∧ True := by
  obtain ⟨a, b, c, d, e, f, g, rfl⟩ := seven_of h0
  exact ⟨⟨a, b, c, d, e, f, g⟩, rfl, trivial⟩
theorem one_of {l : List Value} (h0 : Flat i1 l) : ∃ x : Int, l = [I x] ∧ True := by
  obtain ⟨a, l1, e1, h1⟩ := flat_int h0
  have e2 := flat_nil h1
  subst e2 e1
  exact ⟨a, rfl, trivial⟩
theorem list11 {l : List Value} (h : l.length = 11) {a b c d : Value} (h7 : l[7]? = some a) (h8 : l[8]? = some b) (h9 : l[9]? = some c) (h10 : l[10]? = some d) : l = l.take 7 ++ [a, b, c, d] := by
  apply List.ext_getElem?
  intro i
  by_cases hi : i < 7
  · rw [List.getElem?_append_left (by simp; omega), List.getElem?_take_of_lt hi]
  · rw [List.getElem?_append_right (by simp; omega)]
    have e : (l.take 7).length = 7 := by simp; omega
    rw [e]
    by_cases h11 : i < 11
    · have : i = 7 ∨ i = 8 ∨ i = 9 ∨ i = 10 := by omega
      rcases this with rfl | rfl | rfl | rfl
      · exact h7
      · exact h8
      · exact h9
      · exact h10
    · rw [List.getElem?_eq_none (by omega), List.getElem?_eq_none (by simp; omega)]
set_option maxRecDepth 100000 in
theorem mcfg_open {H : Type} {enc : TypeId × Value → H} {W : World} {base : Nat} {v : Value} {d : DataW H} {p : List MemPlace} (hok : Value.okWide Tryd.prog W .any base 27 v) (h : DataW.Trod enc Tryd.prog W 0 (fun _ => true) true 27 v d p) :
    ∃ (C : Cfg) (aP : Option Addr) (lP cP : Nat) (aW : Option Addr) (lW cW : Nat) (aO : Option Addr) (lO cO : Nat) (aV : Option Addr) (lV cV : Nat), v = .agg ⟨C.enc ++ [.slice aP lP cP, .slice aW lW cW, .slice aO lO cO, .slice aV lV cV]⟩ ∧ lP ≤ maxLen ∧ NestRow i4 W aP lP cP ∧ FlatRow i1 W aW lW cW ∧ FlatRow i1 W aO lO cO ∧ FlatRow i1 W aV lV cV := by
  have hu := Tryd.underlying27
  obtain ⟨l, rfl, hl⟩ := open_agg hu hok
  rw [mcfgCells] at hl
  have h0 := open_fieldFlat (i := 0) (n := 8) hu rfl cfgFlat h
  obtain ⟨aP, lP, cP, h7, hm, hP⟩ := open_fieldNest (i := 1) (n := 8) hu rfl Tryd.underlying24 Tryd.underlying50 slCells3 slCells2 insFlat insCells (by decide) h
  obtain ⟨aW, lW, cW, h8, hW⟩ := open_fieldRow (i := 2) (n := 8) hu rfl Tryd.underlying25 slCells intFlat intCells (by decide) h
  obtain ⟨aO, lO, cO, h9, hO⟩ := open_fieldRow (i := 3) (n := 8) hu rfl Tryd.underlying25 slCells intFlat intCells (by decide) h
  obtain ⟨aV, lV, cV, h10, hV⟩ := open_fieldRow (i := 4) (n := 8) hu rfl Tryd.underlying25 slCells intFlat intCells (by decide) h
  have e := list11 hl h7 h8 h9 h10
  have h0 : Flat i7 ((l.drop 0).take (Tryd.prog.cellsOf 23)) := h0
  rw [cfgCells, List.drop_zero] at h0
  obtain ⟨a, b, c, d', e', f, g, h0e⟩ := seven_of h0
  rw [h0e] at e
  exact ⟨⟨a, b, c, d', e', f, g⟩, aP, lP, cP, aW, lW, cW, aO, lO, cO, aV, lV, cV, by rw [e]; rfl, hm, hP, hW, hO, hV⟩
theorem oldI_of {G : Bg} {W : World} {v : Value} {n : Nat} {at' : Nat → List Value} (hf : ∀ i, i < n → Flat i1 (at' i)) : ∃ l : List Int, l.length = n ∧ ∀ G v, OldS G 1 v n at' → OldI G v l := by
  obtain ⟨l, hl, _, k⟩ := rd_of_oldR (W := 1) (f := fun x : Int => [I x]) (R := fun _ => True) (fun i hi => one_of (hf i hi))
  exact ⟨l, hl, fun G v ho => k G v ho⟩
theorem oldE_of {n : Nat} {at' : Nat → List Value} (hf : ∀ i, i < n → Flat i7 (at' i)) : ∃ l : List Ev, l.length = n ∧ ∀ G v, OldS G 7 v n at' → OldE G v l := by
  obtain ⟨l, hl, _, k⟩ := rd_of_oldR (W := 7) (f := Ev.enc) (R := fun _ => True) (fun i hi => ev_of (hf i hi))
  exact ⟨l, hl, fun G v ho => k G v ho⟩
theorem oldP_of {n : Nat} {at' : Nat → List Value} (hf : ∀ i, i < n → Flat i4 (at' i)) : ∃ l : List Ins, l.length = n ∧ ∀ G v, OldS G 4 v n at' → OldP G v l := by
  obtain ⟨l, hl, _, k⟩ := rd_of_oldR (W := 4) (f := Ins.enc) (R := fun _ => True) (fun i hi => four_of (hf i hi))
  exact ⟨l, hl, fun G v ho => k G v ho⟩
theorem progs_of {k0 : Nat} {W : World} {a : Option Addr} {len cap : Nat} {r : OB} {rs : List OB} {t : Nat → Value} {vs : List Value} {ns : List Nat} {at' : Nat → Nat → List Value} (hn : Nest Pr W i4 k0 a len cap r rs t vs ns at') :
    ∃ ps : List (List Ins), ps.length = len ∧ ∀ (G : Bg) k, k < G.base → G.old k = r.1 → (∀ i x, rs[i]? = some x → k0 + i < G.base ∧ G.old (k0 + i) = x.1) →
      ∃ vi : List Value, vi.length = ps.length ∧ OldS G 1 (t k) (vi.map fun x => [x]).length (fun i => (vi.map fun x => [x]).getD i []) ∧ ∀ (i : Nat) (v : Value) (p : List Ins), vi[i]? = some v → ps[i]? = some p → OldP G v p := by
  have hch : ∀ i, ∃ l : List Ins, ∀ n, ns[i]? = some n → ∀ G v, OldS G 4 v n (at' i) → OldP G v l := fun i => by
    cases h : ns[i]? with
    | none => exact ⟨[], fun n hn => by cases hn⟩
    | some n =>
      obtain ⟨l, _, k⟩ := oldP_of (hn.flat i n h)
      exact ⟨l, fun n' hn' => by cases hn'; exact k⟩
  refine ⟨(List.range len).map fun i => (hch i).choose, by simp, fun G k hk hg hall => ?_⟩
  obtain ⟨o1, _, o2⟩ := hn.old G k hk hg hall
  refine ⟨vs, by simp [hn.lvs], ?_, fun i v p hv hp => ?_⟩
  · rw [List.length_map, hn.lvs]
    obtain ⟨a, c, e, hh⟩ := o1
    refine ⟨a, c, e, fun i hi => ?_⟩
    obtain ⟨b, o, cells, h1, h2, h3, h4⟩ := hh i hi
    refine ⟨b, o, cells, h1, h2, h3.trans ?_, h4⟩
    have hi' : i < vs.length := by rw [hn.lvs]; exact hi
    simp [List.getD_eq_getElem?_getD, List.getElem?_eq_getElem hi']
  · have hil : i < len := by have := (List.getElem?_eq_some_iff.1 hv).1; rw [hn.lvs] at this; exact this
    have hp' : p = (hch i).choose := by
      rw [List.getElem?_map, List.getElem?_range hil] at hp
      simpa using hp.symm
    subst hp'
    have hni : ns[i]? = some (ns[i]'(by rw [hn.lns]; exact hil)) := List.getElem?_eq_getElem _
    exact (hch i).choose_spec _ hni G v (o2 i v _ hv hni).1
theorem old_at {G : Bg} {g : Nat} {gl : Nat → Option Blk} {rs : List OB} {i : Nat} {x : OB} (h : rs[i]? = some x) : oldOf g gl rs (g + i) = x.1 := oldOf_at h
/-- a row's call, with a configuration and a log -/
theorem calls_lawR {W : World} (hL : Gl W) {C : Cfg} {aP aW aO aV aL : Option Addr} {lP cP lW cW lO cO lV cV lL cL : Nat} (hm : lP ≤ maxLen) (hP : NestRow i4 W aP lP cP) (hW : FlatRow i1 W aW lW cW) (hO : FlatRow i1 W aO lO cO) (hV : FlatRow i1 W aV lV cV) (hE : FlatRow i7 W aL lL cL) {f : FuncId}
    (hok : ∀ (G : Bg) (h : AH) (pv wv ov vv lv : Value) (ps : List (List Ins)) (ws os vs : List Int) (l : List Ev), ps.length ≤ 9223372036854775807 → Ob G 0 limE → Ob G 1 opsE → OldM G pv wv ov vv ps ws os vs → OldE G lv l → Hs G h [] → Cl Pr K f [.agg ⟨cfE C pv wv ov vv⟩, lv] h fun v _ => v = .bool true) :
    Calls Pr f ⟨[.agg ⟨C.enc ++ [.slice aP lP cP, .slice aW lW cW, .slice aO lO cO, .slice aV lV cV]⟩, .slice aL lL cL]⟩ W fun e W' => e = .returned (.bool true) ∧ Below W.heap.size W W' := by
  obtain ⟨rw', tw, bw, vw, atw, fw, ow⟩ := row_old2 Pr hW
  obtain ⟨ro, to, bo, vo, ato, fo, oo⟩ := row_old2 Pr hO
  obtain ⟨rv, tv, bv, vv', atv, fv, ov'⟩ := row_old2 Pr hV
  obtain ⟨rl, tl, bl, vl, atl, fl, ol⟩ := row_old2 Pr hE
  obtain ⟨rp, rs, tp, vs, ns, atp, hn⟩ := nest_old Pr 7 hP
  obtain ⟨lws, hws, kw⟩ := oldI_of (G := ⟨0, fun _ => none⟩) (W := W) (v := undef) fw
  obtain ⟨los, hos, ko⟩ := oldI_of (G := ⟨0, fun _ => none⟩) (W := W) (v := undef) fo
  obtain ⟨lvs, hvs, kv⟩ := oldI_of (G := ⟨0, fun _ => none⟩) (W := W) (v := undef) fv
  obtain ⟨le, hle, ke⟩ := oldE_of fl
  obtain ⟨ps, hps, kp⟩ := progs_of hn
  have hL' := hL
  have h2 := size_of hL
  obtain ⟨⟨e0, z0, h0⟩, e1, z1, h1⟩ := hL
  let R : List OB := rw' :: ro :: rv :: rl :: rp :: rs
  have hR : ∀ i x, rs[i]? = some x → R[5 + i]? = some x := fun i x hx => by
    rw [Nat.add_comm]
    exact hx
  have reads : Reads Pr (2 + R.length) (oldOf 2 (glR e0 z0 e1 z1) R) (rhoOf 2 R) W := reads_of2 (by rw [globals2]; exact Nat.le_refl _) h2 (gl_ok h0 h1) (fun x hx => by
    rcases List.mem_cons.1 hx with rfl | hx
    · exact bw.at' _
    rcases List.mem_cons.1 hx with rfl | hx
    · exact bo.at' _
    rcases List.mem_cons.1 hx with rfl | hx
    · exact bv.at' _
    rcases List.mem_cons.1 hx with rfl | hx
    · exact bl.at' _
    rcases List.mem_cons.1 hx with rfl | hx
    · exact hn.out _ fun i y hy => by
        have := rhoOf_at (g := 2) (hR i y hy)
        rwa [show 2 + (5 + i) = 7 + i by omega] at this
    · exact (hn.ok x hx).at' _)
  have hlen : R.length = 5 + rs.length := by show rs.length + 1 + 1 + 1 + 1 + 1 = _; omega
  let G : Bg := ⟨2 + R.length, oldOf 2 (glR e0 z0 e1 z1) R⟩
  have og : ∀ i x, R[i]? = some x → 2 + i < G.base ∧ G.old (2 + i) = x.1 := fun i x hx => ⟨by have := (List.getElem?_eq_some_iff.1 hx).1; show 2 + i < 2 + R.length; omega, oldOf_at hx⟩
  have gw := og 0 rw' rfl
  have go := og 1 ro rfl
  have gv := og 2 rv rfl
  have gl := og 3 rl rfl
  have gp := og 4 rp rfl
  obtain ⟨vi, hvi, hpo, hpi⟩ := kp G 6 gp.1 gp.2 (fun i x hx => by
    have := og (5 + i) x (hR i x hx)
    rwa [show 2 + (5 + i) = 7 + i by omega] at this)
  have ok := hok G (Go.Ab.start G.base G.old) (tp 6) (tw 2) (to 3) (tv 4) (tl 5) ps lws los lvs le (by rw [hps]; unfold maxLen at hm; omega)
    ⟨by show 0 < 2 + R.length; omega, e0, z0, true, (oldOf_gl (g := 2) (i := 0) (gl := glR e0 z0 e1 z1) (rs := R) (by omega)).trans rfl⟩ ⟨by show 1 < 2 + R.length; omega, e1, z1, true, (oldOf_gl (g := 2) (i := 1) (gl := glR e0 z0 e1 z1) (rs := R) (by omega)).trans rfl⟩
    ⟨⟨vi, hvi, hpo, hpi⟩, kw G _ (ow G 2 gw.1 gw.2).1, ko G _ (oo G 3 go.1 go.2).1, kv G _ (ov' G 4 gv.1 gv.2).1⟩ (ke G _ (ol G 5 gl.1 gl.2).1) hs_start
  have hrel : LRel (rhoOf 2 R) [.agg ⟨cfE C (tp 6) (tw 2) (to 3) (tv 4)⟩, tl 5] [.agg ⟨C.enc ++ [.slice aP lP cP, .slice aW lW cW, .slice aO lO cO, .slice aV lV cV]⟩, .slice aL lL cL] := by
    refine LRel.cons ?_ (LRel.cons (vl _ 5 (rhoOf_at (g := 2) (i := 3) (rs := R) rfl)) LRel.nil)
    simp only [VRel]
    exact ⟨_, LRel.append (plainL_rel _ (by rfl)) (LRel.cons (hn.rel _ 6 (rhoOf_at (g := 2) (i := 4) (rs := R) rfl)) (LRel.cons (vw _ 2 (rhoOf_at (g := 2) (i := 0) (rs := R) rfl)) (LRel.cons (vo _ 3 (rhoOf_at (g := 2) (i := 1) (rs := R) rfl)) (LRel.cons (vv' _ 4 (rhoOf_at (g := 2) (i := 2) (rs := R) rfl)) LRel.nil)))), rfl⟩
  have := calls_of (ctx W.heap.size h2) hL' reads hrel ok
  intro cs
  obtain ⟨e, w', fr, ⟨ρ', o, h', v', he, hv', hq, _, hb⟩, hx⟩ := this cs
  rw [hq] at hv'
  simp only [VRel] at hv'
  exact ⟨e, w', fr, ⟨by rw [he, hv'], hb⟩, hx⟩
end Go.Proofs.YtincdgimnjofpaaDoor
end
section
namespace Go.Proofs.YtincdgimnjofpaaDoor
open Go Go.Ab Go.Hm Go.Is Go.At Go.RowKit
set_option maxRecDepth 100000 in
theorem replayRuns_lifted (os : Os) (started : os.Started) (H : Type) (enc : TypeId × Value → H) :
    ReturnsInHanded {} Tryd.checked os 3 .any (fun w args => (Rows.replayRunsSpec.pre enc Tryd.prog Tryd.f3 [] false w args ∧ laidMetH Tryd.prog Rows.replayRunsRow.laid w) ∧ sizedMet enc Tryd.prog Tryd.f3 (OpenSpec.ofChange Rows.replayRunsSpec) false w args)
      (Rows.replayRunsSpec.post enc Tryd.prog Tryd.f3 false true false false) := by
  refine law_lifted (C := Tryd.checked) started own (by kernel_rfl) Tryd.func3 laidOut (by kernel_rfl) rfl Tryd.underlying4 rfl (fun ds hd => by
      match ds, hd with
      | [d1, d2], _ => rfl)
    (ChangeSpec.witness_shaped (enc := enc) (C := Tryd.checked) (os := os) (X := fun w _ => laidMetH Tryd.prog Rows.replayRunsRow.laid w) false (World.laidAll Tryd.prog os Rows.replayRunsRow.laid) #[.agg #[.int .i64 0, .int .i64 0, .int .i64 0, .int .i64 0, .int .i64 0, .int .i64 0, .int .i64 0, .slice none 0 0, .slice none 0 0, .slice none 0 0, .slice none 0 0], .slice none 0 0] 8 (World.laidAll_os _ _ _)
      (World.shaped_of_ZipB (by kernel_rfl) (by kernel_rfl)) (by kernel_rfl) (by kernel_rfl) (by kernel_rfl)
      (by rw [MakeChecks.laidMetH_plain _ _ _ (by kernel_rfl)]; exact laidMet_laidAll _ (by kernel_rfl) (by kernel_rfl))) ?_
  intro W base args ds ps hA hval hL
  rw [show (Tryd.f3.params.toList) = [27, 28] from by rw [Tryd.params3]] at hA
  rw [Tryd.params3] at hval
  obtain ⟨v0, vs0, d0, ds0, p0, q0, rfl, rfl, rfl, h0, r0⟩ := ChangeShapes.trodAll_cons hA
  obtain ⟨v1, vs1, d1, ds1, p1, q1, rfl, rfl, rfl, h1, r1⟩ := ChangeShapes.trodAll_cons r0
  obtain ⟨rfl, rfl, rfl⟩ := ChangeShapes.trodAll_nil r1
  obtain ⟨C, aP, lP, cP, aW, lW, cW, aO, lO, cO, aV, lV, cV, rfl, hm, hP, hW, hO, hV⟩ := mcfg_open (hval 0 _ v0 rfl rfl) h0
  obtain ⟨aL, lL, cL, rfl, hE⟩ := open_rowF Tryd.underlying28 evFlat evCells (by decide) (hval 1 _ v1 rfl rfl) h1
  exact calls_lawR (gl_of (by kernel_rfl) hL (by simp [Rows.replayRunsRow]) (by simp [Rows.replayRunsRow])) hm hP hW hO hV hE fun G h pv wv ov vv lv ps ws os vs l hn hlim hops hom hoe hs => replayRuns_ok hn hlim hops hom hoe hs fun _ => rfl
theorem replayRuns_over : Rows.replayRunsRow.holds Tryd.pinned (OpenSpec.ofChange Rows.replayRunsSpec) :=
  OpenClaim.holds_of_wide 3 Tryd.f3 rfl rfl rfl rfl rfl rfl rfl ⟨rfl, rfl, rfl, rfl, rfl⟩ rfl rfl rfl rfl rfl (by kernel_rfl) Tryd.func3 (by kernel_rfl)
    (of_decide_eq_true (by kernel_rfl)) (by unfold Func.isWrapper; first | (rw [if_pos (by decide +kernel)]; kernel_rfl) | (rw [if_neg (by decide +kernel)]; exact ⟨rfl, rfl⟩))
    (fun os started H enc _ => replayRuns_lifted os started H enc)
/-- ████ THE STATEMENT ████ -/
theorem replayRuns_proved : Rows.ReplayRunsCardSaid :=
  Claim7.holds_tied_plain_at .later [] Rows.replayRunsCard.laidKinds true Rows.replayRunsCard.stood.harness false
    replayRuns_over (fun _ h => by cases h) (by kernel_rfl) (fun _ h => by cases h) replayRuns_row_tie rfl ⟨rfl, rfl⟩ (by kernel_rfl) rfl
    (fun f fn hf hfn => by
      obtain rfl : f = 3 := Option.some.inj ((show Tryd.prog.funcNamed "donjon/donjonlaw18.ReplayRuns" = some 3 by kernel_rfl).symm.trans hf) |>.symm
      obtain rfl : fn = Tryd.f3 := (Option.some.inj (Tryd.func3.symm.trans hfn)).symm
      exact ⟨by kernel_rfl, fun j t ht => by
        rw [Tryd.params3] at ht
        have hm : t ∈ [27, 28] := by simpa using Array.mem_of_getElem? ht
        have hall : ([27, 28].all fun u => !Tryd.prog.wantsStandIn u) = true := by kernel_rfl
        exact (show Tryd.prog.wantsStandIn t = false by simpa using List.all_eq_true.1 hall t hm)⟩)
    (by kernel_rfl)
end Go.Proofs.YtincdgimnjofpaaDoor
end
