/-
  THE ENGINE, part 4: the operations that read and make memory. Over any program. Written in this session.
-/
import Derived.Test.YtceakkomleaibaaEa3
namespace Go.Ea
section
variable {P : Program} {base : Nat} {H : Heap} {α : Al} {w : World} {a : Act} {lk : Nat → Option AV} {eqs : Eqs}

theorem run_isAgg' {t : TypeId} {d : TypeDesc} (h : P.underlying t = some d) (w : World) : (isAgg t).run P w = .ok (isAggD d) w := by
  simp only [isAgg, Sem.run_bind, run_underlying h, Result.andThen_ok]
  cases d <;> rfl
theorem run_sizeO {t : TypeId} {n : Nat} (h : sizeO P t = some n) (w : World) : (sizeOf t).run P w = .ok n w := by
  unfold sizeO at h
  split at h
  · rename_i i hi; cases h; simp [sizeOf, typeInfo, hi]
  · cases h
theorem run_zeroOf {t : TypeId} {x : A1} (h : zeroOf P t = some x) (w : World) : ∃ z, (zeroValue t).run P w = .ok z w ∧ V1 α x z := by
  unfold zeroOf at h
  split at h
  · rename_i i hi
    split at h
    · rename_i z hz; exact ⟨z, by simp [zeroValue, typeInfo, hi, hz], cv1_sim h⟩
    · cases h
  · cases h

/-- The values of a stretch of a laid row. -/
theorem seg_vals {cs : List AT} {s : Nat} {c : Array Value} (hc : ∀ j b, cs[j]? = some b → ∃ v, c[s + j]? = some v ∧ AR α b v) (o n : Nat) (hl : o + n ≤ cs.length) (hs : s + cs.length ≤ c.size) :
    F2 (AR α) ((cs.drop o).take n) ((c.toList.drop (s + o)).take n) := by
  refine F2.mk' (by simp; omega) fun j x y hx hy => ?_
  rw [List.getElem?_take] at hx hy
  split at hx
  · rename_i hj
    rw [if_pos hj] at hy
    rw [List.getElem?_drop] at hx hy
    obtain ⟨v, h1, h2⟩ := hc _ _ hx
    have : c[s + (o + j)]? = some y := by rw [← Nat.add_assoc]; simpa using hy
    rw [h1] at this; cases this; exact h2
  · cases hx
theorem seg_cells {w : World} {b : Nat} {c : Array Value} {T : TypeId} {fz : Nat × Nat} (hb : w.heap[b]? = some (.cells c T fz)) (o n : Nat) :
    ∀ j v, ((c.toList.drop o).take n)[j]? = some v → w.cell? ((⟨b, o, none⟩ : Addr).add j) = some v := fun j v hj => by
  rw [Addr.add_lit, cell_of_row w b (o + j) c T fz hb]
  rw [List.getElem?_take] at hj
  split at hj
  · rw [List.getElem?_drop] at hj; simpa using hj
  · cases hj

theorem run_loadSeg {b o n : Nat} {c : Array Value} {T : TypeId} {fz : Nat × Nat} (hb : w.heap[b]? = some (.cells c T fz)) (hl : o + n ≤ c.size) :
    (loadCells ⟨b, o, none⟩ n).run P w = .ok ((c.toList.drop o).take n).toArray w := by
  have h := run_loadCells_list (P := P) w ⟨b, o, none⟩ ((c.toList.drop o).take n) (seg_cells hb o n)
  rwa [show ((c.toList.drop o).take n).length = n from by simp; omega] at h

theorem partA_load {T : TypeId} {cs : List AT} {o : Nat} {x : A1} (h : partA P T cs o = some x) {b s : Nat} {c : Array Value} {Tb : TypeId} {fz : Nat × Nat} (hb : w.heap[b]? = some (.cells c Tb fz))
    (hs : s + cs.length ≤ c.size) (hc : ∀ j q, cs[j]? = some q → ∃ v, c[s + j]? = some v ∧ AR α q v) : ∃ u, (loadVar T ⟨b, s + o, none⟩).run P w = .ok u w ∧ V1 α x u := by
  unfold partA at h
  split at h
  · rename_i d n hd hn
    cases hg : isAggD d
    · rw [hg] at h
      simp only [cond_false] at h
      split at h
      · rename_i q hq
        cases h
        obtain ⟨v, h1, h2⟩ := hc _ _ hq
        refine ⟨v, ?_, h2⟩
        have hcell : w.cell? ⟨b, s + o, none⟩ = some v := by rw [cell_of_row w b _ c Tb fz hb]; exact h1
        simp [loadVar, run_isAgg' hd, hg, hcell]
      · cases h
    · rw [hg] at h
      simp only [cond_true] at h
      cases hle : Nat.ble (o + n) cs.length
      · rw [hle] at h; cases h
      · rw [hle] at h
        cases h
        have hle' := Nat.le_of_ble_eq_true hle
        refine ⟨.agg ((c.toList.drop (s + o)).take n).toArray, ?_, _, rfl, by simpa using seg_vals hc o n hle' hs⟩
        simp only [loadVar, Sem.run_bind, run_isAgg' hd, hg, Result.andThen_ok, if_true, run_sizeO hn, Sem.run_pure]
        rw [run_loadSeg hb (by omega)]
        rfl
  · cases h

theorem sim_load (hR : R P base H α w) (hE : EnvR α lk a) {o : Oper} {T : TypeId} {x : Operand} (ho : o.op = .load T x) {v : AV} {H' : Heap} (h : op_load T x P eqs lk H = some (.val v H')) :
    Res P base H α w ((execOp a.eval o).run P w) v H' := by
  unfold op_load at h
  split at h
  · rename_i id off hx
    split at h
    · rename_i T' k cs hobj
      split at h
      · rename_i y hy
        cases h
        obtain ⟨L, hL, he⟩ := rho_sim hE hx
        obtain ⟨L', c, fz, h1, h2, h3, h4, _⟩ := hR.obj _ _ hobj
        rw [hL] at h1; cases h1
        obtain ⟨u, hu, hv⟩ := partA_load hy h2 h3 h4
        refine Res.pure hR (u := u) ?_ hv
        simp [execOp, ho, he, Instr.loadAt, Instr.sureAddr, hu]
      · cases h
    · cases h
  · cases h

/-- Cells of a new block. -/
theorem OR.fresh {T : TypeId} {k : Nat} {cs : List AT} {vs : List Value} (hv : F2 (AR α) cs vs) (hk : k ≠ 2) (hb : base ≤ w.heap.size) (hd : α H.n = none) :
    OR P base (upd α H.n ⟨w.heap.size, 0, 0⟩) (w.alloc (.cells vs.toArray T)) H.n (.cells T k cs) := by
  refine ⟨_, vs.toArray, (0, 0), upd_self _ _ _, by simpa using heap_alloc_new w _, by simp [hv.length], fun j q hq => ?_, fun _ => ⟨hb, rfl⟩, fun h => absurd h hk⟩
  obtain ⟨v, h1, h2⟩ := hv.get hq
  exact ⟨v, by simpa using h1, h2.mono (sub_upd hd)⟩
theorem run_newObj (O : Obj) (w : World) : (newObj O).run P w = .ok w.heap.size (w.alloc O) := rfl

/-- A new block that holds the new object. -/
def Fresh (P : Program) (base : Nat) (α : Al) (w : World) (r : Result Next) (id : Nat) (v : AV) (obj : AObj) : Prop :=
  ∃ u O L, r = .ok (.value u) (w.alloc O) ∧ L.blk = w.heap.size ∧ VR (upd α id L) v u ∧ OR P base (upd α id L) (w.alloc O) id obj ∧ ∀ x, (w.alloc O).frozen? x = w.frozen? x
theorem Fresh.res (hR : R P base H α w) {r : Result Next} {v : AV} {H' : Heap} (h : ∃ obj, H' = H.push obj ∧ Fresh P base α w r H.n v obj) : Res P base H α w r v H' := by
  obtain ⟨obj, rfl, u, O, L, h1, h2, h3, h4, h5⟩ := h
  exact ⟨_, u, w.alloc O, upd α H.n L, h1, .inl rfl, h3, hR.alloc h2 h4, Ext.alloc_obj (hR.dom _ (Nat.le_refl _)) h2 h5⟩

theorem mk_alloc (hb : base ≤ w.heap.size) (hd : α H.n = none) {o : Oper} {T : TypeId} (ho : o.op = .alloc T) {v : AV} {H' : Heap} (h : op_alloc T P eqs lk H = some (.val v H')) :
    ∃ obj, H' = H.push obj ∧ Fresh P base α w ((execOp a.eval o).run P w) H.n v obj := by
  unfold op_alloc at h
  split at h
  · rename_i x hx
    cases h
    obtain ⟨z, hz, hzr⟩ := run_zeroOf (α := α) hx w
    refine ⟨_, rfl, .pointer (some ⟨w.heap.size, 0, none⟩), .cells z.cells T, ⟨w.heap.size, 0, 0⟩, ?_, rfl, ⟨_, upd_self _ _ _, rfl⟩, ?_, RowKit.frozen?_alloc_cells _ _ _⟩
    · simp [execOp, ho, Instr.alloc, hz, newVar, newRow]
    · have := OR.fresh (P := P) (H := H) (T := T) (k := 1) hzr.cells (by omega) hb hd
      exact by simpa using this
  · cases h

theorem sim_alloc (hR : R P base H α w) {o : Oper} {T : TypeId} (ho : o.op = .alloc T) {v : AV} {H' : Heap} (h : op_alloc T P eqs lk H = some (.val v H')) :
    Res P base H α w ((execOp a.eval o).run P w) v H' := Fresh.res hR (mk_alloc (eqs := eqs) (lk := lk) hR.bs (hR.dom _ (Nat.le_refl _)) ho h)

theorem mk_box (hb : base ≤ w.heap.size) (hd : α H.n = none) (hE : EnvR α lk a) {o : Oper} {T : TypeId} {x : Operand} (ho : o.op = .box T x) {v : AV} {H' : Heap} (h : op_box T x P eqs lk H = some (.val v H')) :
    ∃ obj, H' = H.push obj ∧ Fresh P base α w ((execOp a.eval o).run P w) H.n v obj := by
  unfold op_box at h
  split at h
  · rename_i y hx
    cases h
    have hy : V1 α y (a.eval x) := rho_sim hE hx
    refine ⟨_, rfl, .pointer (some ⟨w.heap.size, 0, none⟩), .cells (a.eval x).cells T, ⟨w.heap.size, 0, 0⟩, ?_, rfl, ⟨_, upd_self _ _ _, rfl⟩, ?_, RowKit.frozen?_alloc_cells _ _ _⟩
    · simp [execOp, ho, Instr.box, newVar, newRow]
    · have := OR.fresh (P := P) (H := H) (T := T) (k := 1) hy.cells (by omega) hb hd
      exact by simpa using this
  · cases h

theorem sim_box (hR : R P base H α w) (hE : EnvR α lk a) {o : Oper} {T : TypeId} {x : Operand} (ho : o.op = .box T x) {v : AV} {H' : Heap} (h : op_box T x P eqs lk H = some (.val v H')) :
    Res P base H α w ((execOp a.eval o).run P w) v H' := Fresh.res hR (mk_box (eqs := eqs) (lk := lk) hR.bs (hR.dom _ (Nat.le_refl _)) hE ho h)

theorem putL_length {cs xs : List AT} {o : Nat} (h : o + xs.length ≤ cs.length) : (putL cs o xs).length = cs.length := by
  simp [putL]; omega
theorem putL_get {A : Type} {cs xs : List A} {o : Nat} (h : o + xs.length ≤ cs.length) (j : Nat) : (cs.take o ++ xs ++ cs.drop (o + xs.length))[j]? = if o ≤ j ∧ j < o + xs.length then xs[j - o]? else cs[j]? := by
  rw [List.append_assoc, List.getElem?_append]
  have h1 : (cs.take o).length = o := by simp; omega
  rw [h1]
  by_cases c1 : j < o
  · rw [if_pos c1, if_neg (by omega), List.getElem?_take, if_pos c1]
  · rw [if_neg c1, List.getElem?_append]
    by_cases c2 : j - o < xs.length
    · rw [if_pos c2, if_pos (by omega)]
    · rw [if_neg c2, if_neg (by omega), List.getElem?_drop]
      congr 1; omega

theorem sim_store (hR : R P base H α w) (hE : EnvR α lk a) {o : Oper} {T : TypeId} {x y : Operand} (ho : o.op = .store T x y) {v : AV} {H' : Heap} (h : op_store T x y P eqs lk H = some (.val v H')) :
    Res P base H α w ((execOp a.eval o).run P w) v H' := by
  unfold op_store at h
  split at h
  · rename_i id off z n hx hy hn
    split at h
    · rename_i T' k cs hobj
      cases hcond : (Nat.beq z.cells.length n && Nat.ble (off + n) cs.length && !Nat.beq k 0)
      · rw [hcond] at h; cases h
      · rw [hcond] at h
        cases h
        simp only [Bool.and_eq_true, Nat.beq_eq, Nat.ble_eq, Bool.not_eq_true', ← Bool.not_eq_true] at hcond
        obtain ⟨⟨hl, hfit⟩, hk⟩ := hcond
        obtain ⟨L, hL, he⟩ := rho_sim hE hx
        have hz : V1 α z (a.eval y) := rho_sim hE hy
        have hzc := hz.cells
        obtain ⟨L', c, fz, h1, h2, h3, h4, h5, h6⟩ := hR.obj _ _ hobj
        have hL' := h1
        rw [hL] at h1; cases h1
        obtain ⟨hbb, rfl⟩ := h5 hk
        have hlen : (a.eval y).cells.toList.length = n := by rw [← hzc.length]; exact hl
        have hsz : (a.eval y).cells.size = n := by rw [← hlen]; simp
        have hst := run_storeCells_at (P := P) L.blk (L.off + off) T' (a.eval y).cells.toList 0 c w h2 (by omega) (fun q hq => by
          obtain ⟨j, hj, hj'⟩ := List.getElem_of_mem hq
          have : z.cells[j]? = some z.cells[j] := List.getElem?_eq_getElem (by rw [hzc.length]; exact hj)
          obtain ⟨q', e1, e2⟩ := hzc.get this
          rw [List.getElem?_eq_getElem hj] at e1; cases e1; rw [← hj']; exact e2.oneCell)
        simp only [Nat.add_zero] at hst
        refine ⟨.skip, undef, w.setRow L.blk ((c.toList.take (L.off + off) ++ (a.eval y).cells.toList ++ c.toList.drop (L.off + off + (a.eval y).cells.toList.length)).toArray), α, ?_, .inr ⟨rfl, rfl⟩, ⟨#[], rfl, .nil⟩, ?_⟩
        · simp [execOp, ho, he, Instr.storeAt, Instr.sureAddr, storeVar, run_sizeO hn, hsz, hst]
        · refine R.write hR hobj (by simpa [AObj.rw] using hk) hL (by simpa [AObj.rw] using hk) ⟨rfl, rfl, rfl⟩ (by simp) (fun k hk => setRow_other _ _ _ _ hk) frozen_row ?_
          refine ⟨L, _, (0, 0), hL, setRow_heap _ _ _ _ _ _ h2, ?_, fun j q hq => ?_, fun _ => ⟨hbb, rfl⟩, fun e => ?_⟩
          · rw [putL_length (by omega)]; simp; omega
          · unfold putL at hq
            rw [putL_get (by omega)] at hq
            simp only [List.getElem?_toArray]
            rw [putL_get (by simp; omega)]
            by_cases c1 : off ≤ j ∧ j < off + z.cells.length
            · rw [if_pos c1] at hq
              rw [if_pos (by omega)]
              obtain ⟨u, e1, e2⟩ := hzc.get hq
              exact ⟨u, by rw [show L.off + j - (L.off + off) = j - off from by omega]; exact e1, e2⟩
            · rw [if_neg c1] at hq
              rw [if_neg (by omega)]
              obtain ⟨u, e1, e2⟩ := h4 j q hq
              exact ⟨u, by simpa using e1, e2⟩
          · obtain ⟨e1, e2, info, e3, e4⟩ := h6 e
            exact ⟨e1, e2, info, e3, by rw [← e4]; simp; omega⟩
    · cases h
  · cases h

theorem fieldO_spec {s : TypeId} {f : Nat} {ft : TypeId} {off : Nat} (h : fieldO P s f = some (ft, off)) : ∃ fields x, P.underlying s = some (.struct fields) ∧ fields[f]? = some x ∧ x.type = ft ∧ x.offset = off := by
  unfold fieldO at h
  split at h
  · rename_i fields hf
    split at h
    · rename_i x hx; cases h; exact ⟨fields, x, hf, hx, rfl, rfl⟩
    · cases h
  · cases h

theorem sim_fieldAddr (hR : R P base H α w) (hE : EnvR α lk a) {o : Oper} {s : TypeId} {x : Operand} {f : Nat} (ho : o.op = .fieldAddr s x f) {v : AV} {H' : Heap} (h : op_fieldAddr s x f P eqs lk H = some (.val v H')) :
    Res P base H α w ((execOp a.eval o).run P w) v H' := by
  unfold op_fieldAddr at h
  split at h
  · rename_i ft off id oo hf hx
    split at h
    · rename_i z hz
      cases hz0 : Nat.beq z 0
      · rw [hz0] at h
        cases h
        obtain ⟨fields, fx, e1, e2, e3, e4⟩ := fieldO_spec hf
        obtain ⟨L, hL, he⟩ := rho_sim hE hx
        refine Res.pure hR (u := .pointer (some ⟨L.blk, L.off + oo + off, none⟩)) ?_ ⟨L, hL, by simp [Nat.add_assoc]⟩
        have hz' : ¬ z = 0 := by intro e; rw [e] at hz0; cases hz0
        subst e3 e4
        simp [execOp, ho, he, Instr.fieldAt, run_underlying e1, e2, Instr.sureAddr, fieldPlace, run_sizeO hz, hz', Addr.add_lit]
      · rw [hz0] at h; cases h
    · cases h
  · cases h

theorem partA_part {T : TypeId} {cs : List AT} {o : Nat} {x : A1} (h : partA P T cs o = some x) {arr : Array Value} (hc : F2 (AR α) cs arr.toList) : ∃ u, (part T arr o).run P w = .ok u w ∧ V1 α x u := by
  unfold partA at h
  split at h
  · rename_i d n hd hn
    cases hg : isAggD d
    · rw [hg] at h
      simp only [cond_false] at h
      split at h
      · rename_i q hq
        cases h
        obtain ⟨v, h1, h2⟩ := hc.get hq
        refine ⟨v, ?_, h2⟩
        have h1' : arr[o]? = some v := by simpa using h1
        simp [part, run_isAgg' hd, hg, h1']
      · cases h
    · rw [hg] at h
      simp only [cond_true] at h
      cases hle : Nat.ble (o + n) cs.length
      · rw [hle] at h; cases h
      · rw [hle] at h
        cases h
        refine ⟨.agg (arr.extract o (o + n)), ?_, _, rfl, ?_⟩
        · simp [part, run_isAgg' hd, hg, run_sizeO hn]
        · have := (hc.drop o).take n
          rw [Array.toList_extract]
          simpa [List.extract_eq_take_drop] using this
  · cases h

theorem sim_field (hR : R P base H α w) (hE : EnvR α lk a) {o : Oper} {T : TypeId} {x : Operand} {f : Nat} (ho : o.op = .field T x f) {v : AV} {H' : Heap} (h : op_field T x f P eqs lk H = some (.val v H')) :
    Res P base H α w ((execOp a.eval o).run P w) v H' := by
  unfold op_field at h
  split at h
  · rename_i ft off cs hf hx
    split at h
    · rename_i y hy
      cases h
      obtain ⟨fields, fx, e1, e2, e3, e4⟩ := fieldO_spec hf
      obtain ⟨arr, he, hc⟩ := rho_sim hE hx
      obtain ⟨u, hu, hv⟩ := partA_part (w := w) hy hc
      refine Res.pure hR (u := u) ?_ hv
      subst e3 e4
      simp [execOp, ho, he, Instr.field, run_underlying e1, e2, asAgg, hu]
    · cases h
  · cases h

theorem isSliceD_spec {d : Option TypeDesc} {e : TypeId} (h : isSliceD d = some e) : d = some (.slice e) := by
  unfold isSliceD at h
  split at h
  · cases h; rfl
  · cases h
theorem intA_sim {v : AV} {n : Int} {u : Value} (h : intA v = some n) (hv : VR α v u) : ∃ k, u = .int k n := by
  unfold intA at h
  split at h
  · rename_i k m; cases h; exact ⟨k, hv⟩
  · cases h

theorem sim_indexAddr (hR : R P base H α w) (hE : EnvR α lk a) {o : Oper} {t : TypeId} {x ix : Operand} (ho : o.op = .indexAddr t x ix) {v : AV} {H' : Heap} (h : op_indexAddr t x ix P eqs lk H = some (.val v H')) :
    Res P base H α w ((execOp a.eval o).run P w) v H' := by
  unfold op_indexAddr at h
  split at h
  · rename_i id oo n iv hx hix
    split at h
    · rename_i e i he hi
      split at h
      · rename_i z hz
        cases hr : inR i n
        · rw [hr] at h; cases h
        · rw [hr] at h
          cases h
          have hr' := (inR_iff i n).1 hr
          obtain ⟨L, c, hL, hnc, _, hs⟩ := rho_sim hE hx
          obtain ⟨k, hk⟩ := intA_sim hi (rho_sim hE hix)
          rcases hs with ⟨hs, _⟩ | ⟨h0, _⟩
          · refine Res.pure hR (u := .pointer (some ⟨L.blk, L.off + oo + i.toNat * z, none⟩)) ?_ ⟨L, hL, by simp [Nat.add_assoc]⟩
            simp [execOp, ho, hs, hk, Instr.indexAt, asIntOf, run_underlying (isSliceD_spec he), hr', run_sizeO hz, Addr.add_lit]
          · exfalso; omega
      · cases h
    · cases h
  · cases h

theorem sim_index (hR : R P base H α w) (hE : EnvR α lk a) {o : Oper} {t : TypeId} {x ix : Operand} (ho : o.op = .index t x ix) {v : AV} {H' : Heap} (h : op_index t x ix P eqs lk H = some (.val v H')) :
    Res P base H α w ((execOp a.eval o).run P w) v H' := by
  unfold op_index at h
  split at h
  · rename_i l iv hx hix
    split at h
    · rename_i i ht hi
      cases hr : inR i l.length
      · rw [hr] at h; cases h
      · rw [hr] at h
        simp only [cond_true] at h
        have hr' := (inR_iff i _).1 hr
        split at h
        · rename_i b hb
          cases h
          obtain ⟨s, he, hs⟩ := rho_sim hE hx
          obtain ⟨k, hk⟩ := intA_sim hi (rho_sim hE hix)
          subst hs
          refine Res.pure hR (u := .int .u8 b.toNat) ?_ rfl
          have hb' : s[i.toNat]? = some b := by
            have h1 : i.toNat < s.size := by have := hr'.2; simp at this; omega
            rw [getElem?_pos s i.toNat h1]
            rw [← hb]
            simp [h1]
            rfl
          simp [execOp, ho, he, hk, Instr.index, asIntOf, run_underlying ht, hr'.1, hb']
        · cases h
    · cases h
  · rename_i cs iv hx hix
    split at h
    · rename_i len e i ht hi
      split at h
      · rename_i z hz
        cases hr : inR i len
        · rw [hr] at h; cases h
        · rw [hr] at h
          simp only [cond_true] at h
          have hr' := (inR_iff i _).1 hr
          split at h
          · rename_i y hy
            cases h
            obtain ⟨arr, he, hc⟩ := rho_sim hE hx
            obtain ⟨k, hk⟩ := intA_sim hi (rho_sim hE hix)
            obtain ⟨u, hu, hv⟩ := partA_part (w := w) hy hc
            refine Res.pure hR (u := u) ?_ hv
            simp [execOp, ho, he, hk, Instr.index, asIntOf, run_underlying ht, hr', run_sizeO hz, hu]
          · cases h
      · cases h
    · cases h
  · cases h
end
end Go.Ea
