/-
  THE ENGINE, part 5: cuts, conversions, literals, maps, append. Over any program. Written in this session.
-/
import Derived.Test.YtceakkomleaibaaEa4
import Derived.Lib.IndexBytes
import Derived.Laws.BytesString
namespace Go.Ea
section
variable {P : Program} {base : Nat} {H : Heap} {α : Al} {w : World} {a : Act} {lk : Nat → Option AV} {eqs : Eqs}

theorem boundA_sim (hE : EnvR α lk a) {d : Nat} {x : Option Operand} {l : Nat} (h : boundA lk d x = some l) :
    (x = none ∧ l = d) ∨ ∃ y k n, x = some y ∧ a.eval y = .int k n ∧ 0 ≤ n ∧ n.toNat = l := by
  unfold boundA at h
  split at h
  · cases h; exact .inl ⟨rfl, rfl⟩
  · rename_i y
    split at h
    · rename_i v hv
      split at h
      · rename_i n hn
        split at h
        · rename_i h0
          cases h
          obtain ⟨k, hk⟩ := intA_sim hn (rho_sim hE hv)
          exact .inr ⟨y, k, n, rfl, hk, h0, rfl⟩
        · cases h
      · cases h
    · cases h

theorem run_sliceBound' (k : IntKind) (i : Int) (y : Nat) (code : BoundsCode) (h0 : 0 ≤ i) (h1 : i.toNat ≤ y) (w : World) : (Instr.sliceBound (.int k i) y code).run P w = .ok i.toNat w := by
  have : i ≤ (y : Int) := by omega
  simp [Instr.sliceBound, asIntOf, h0, this]

theorem sim_slice (hR : R P base H α w) (hE : EnvR α lk a) {o : Oper} {t : TypeId} {x : Operand} {lo hi mx : Option Operand} (ho : o.op = .slice t x lo hi mx) {v : AV} {H' : Heap} (h : op_slice t x lo hi mx P eqs lk H = some (.val v H')) :
    Res P base H α w ((execOp a.eval o).run P w) v H' := by
  unfold op_slice at h
  split at h
  · rename_i s hx
    split at h
    · rename_i l hh ht hlo hhi
      cases hc : (Nat.ble l hh && Nat.ble hh s.length)
      · rw [hc] at h; cases h
      · rw [hc] at h
        cases h
        simp only [Bool.and_eq_true, Nat.ble_eq] at hc
        obtain ⟨b, he, hb⟩ := rho_sim hE hx
        subst hb
        have hsz : b.data.toList.length = b.size := by simp
        rw [hsz] at hc hhi
        refine Res.pure hR (u := .string (b.extract l hh)) ?_ ⟨_, rfl, ?_⟩
        · have e1 := boundA_sim hE hlo
          have e2 := boundA_sim hE hhi
          rcases e2 with ⟨rfl, rfl⟩ | ⟨y, k, n, rfl, hy, h0, rfl⟩ <;> rcases e1 with ⟨rfl, rfl⟩ | ⟨y', k', n', rfl, hy', h0', rfl⟩
          · simp [execOp, ho, he, Instr.sliceAt, Instr.slice, run_underlying ht, Instr.sliceBounds]
          · have q1 := run_sliceBound' (P := P) k' n' b.size .sliceB h0' hc.1 w
            simp [execOp, ho, he, Instr.sliceAt, Instr.slice, run_underlying ht, Instr.sliceBounds, hy', q1]
          · have q1 := run_sliceBound' (P := P) k n b.size .sliceAlen h0 hc.2 w
            simp [execOp, ho, he, Instr.sliceAt, Instr.slice, run_underlying ht, Instr.sliceBounds, hy, q1]
          · have q1 := run_sliceBound' (P := P) k n b.size .sliceAlen h0 hc.2 w
            have q2 := run_sliceBound' (P := P) k' n' n.toNat .sliceB h0' hc.1 w
            simp [execOp, ho, he, Instr.sliceAt, Instr.slice, run_underlying ht, Instr.sliceBounds, hy, hy', q1, q2]
        · rw [Lib.extract_data, List.drop_take]
    · cases h
  · rename_i id oo n hx
    split at h
    · rename_i e l hh he hlo hhi
      split at h
      · rename_i z hz
        cases hc : (Nat.ble l hh && Nat.ble hh n && !Nat.beq z 0)
        · rw [hc] at h; cases h
        · rw [hc] at h
          cases h
          simp only [Bool.and_eq_true, Nat.ble_eq, Bool.not_eq_true', ← Bool.not_eq_true, Nat.beq_eq] at hc
          obtain ⟨⟨hc1, hc2⟩, hz0⟩ := hc
          obtain ⟨L, c, hL, hnc, hcm, hs⟩ := rho_sim hE hx
          have e1 := boundA_sim hE hlo
          have e2 := boundA_sim hE hhi
          have hv : ∃ ad, a.eval x = .slice ad n c := by
            rcases hs with ⟨hs, _⟩ | ⟨h0, _, ad, hs⟩
            · exact ⟨_, hs⟩
            · subst h0; exact ⟨ad, hs⟩
          obtain ⟨ad, hv⟩ := hv
          have hrun : (execOp a.eval o).run P w = .ok (.value (.slice (if c = l then ad else ad.map (·.add (l * z))) (hh - l) (c - l))) w := by
            rcases e2 with ⟨rfl, rfl⟩ | ⟨y, k, m, rfl, hy, h0, rfl⟩ <;> rcases e1 with ⟨rfl, rfl⟩ | ⟨y', k', m', rfl, hy', h0', rfl⟩
            · simp [execOp, ho, hv, Instr.sliceAt, Instr.slice, run_underlying (isSliceD_spec he), Instr.sliceBounds, run_sizeO hz]
            · have q1 := run_sliceBound' (P := P) k' m' hh .sliceB h0' hc1 w
              simp [execOp, ho, hv, Instr.sliceAt, Instr.slice, run_underlying (isSliceD_spec he), Instr.sliceBounds, hy', q1, run_sizeO hz]
            · have q1 := run_sliceBound' (P := P) k m c .sliceAcap h0 (by omega) w
              simp [execOp, ho, hv, Instr.sliceAt, Instr.slice, run_underlying (isSliceD_spec he), Instr.sliceBounds, hy, q1, run_sizeO hz]
            · have q1 := run_sliceBound' (P := P) k m c .sliceAcap h0 (by omega) w
              have q2 := run_sliceBound' (P := P) k' m' m.toNat .sliceB h0' hc1 w
              simp [execOp, ho, hv, Instr.sliceAt, Instr.slice, run_underlying (isSliceD_spec he), Instr.sliceBounds, hy, hy', q1, q2, run_sizeO hz]
          refine Res.pure hR (u := _) hrun ?_
          clear e1 e2
          refine ⟨L, c - l, hL, by omega, by omega, ?_⟩
          have hzl : 0 < l → 0 < l * z := fun h1 => Nat.mul_pos h1 (by omega)
          rcases hs with ⟨hs, hcap⟩ | ⟨h0, hoo, ad', hs⟩
          · rw [hv] at hs
            injection hs with hs _ _
            subst hs
            by_cases hcl : c = l
            · by_cases hl0 : l = 0
              · left
                subst hl0
                refine ⟨by rw [if_pos hcl]; simp, fun e => ?_⟩
                simp only [Nat.zero_mul, Nat.add_zero] at e
                rw [Nat.sub_zero]; exact hcap e
              · right
                refine ⟨by omega, ?_, ?_⟩
                · have := hzl (by omega); simp only; omega
                · exact ⟨_, by rw [show hh - l = 0 from by omega]⟩
            · left
              refine ⟨by rw [if_neg hcl]; simp [Addr.add_lit, Nat.add_assoc], fun e => ?_⟩
              have hl0 : l = 0 := by
                rcases Nat.eq_zero_or_pos l with h1 | h1
                · exact h1
                · have := hzl h1; simp only at e; omega
              subst hl0
              simp only [Nat.zero_mul, Nat.add_zero] at e
              rw [Nat.sub_zero]; exact hcap e
          · right
            exact ⟨by omega, by simp only at hoo ⊢; omega, _, by rw [show hh - l = 0 from by omega]⟩
      · cases h
    · cases h
  · cases h

/-! ### conversions -/
theorem foldl_push {A : Type} (f : A → UInt8) : ∀ (ns : List A) (b : ByteArray), (ns.foldl (fun r n => r.push (f n)) b).data.toList = b.data.toList ++ ns.map f
  | [], b => by simp
  | n :: r, b => by
    rw [List.foldl_cons, foldl_push f r]
    simp [ByteArray.push]
theorem bytesA_sim : ∀ {cs : List AT} {l : List UInt8} {vs : List Value}, bytesA cs = some l → F2 (AR α) cs vs → ∃ ns : List Int, vs = ns.map (Value.int .u8) ∧ l = ns.map fun n => UInt8.ofNat n.toNat
  | [], l, _, h, .nil => by simp only [bytesA] at h; cases h; exact ⟨[], rfl, rfl⟩
  | x :: r, l, _, h, .cons h1 h2 => by
    unfold bytesA at h
    split at h
    · cases ‹_ :: _ = []›
    · rename_i n r' he
      cases he
      split at h
      · rename_i l' hl
        cases h
        obtain ⟨ns, e1, e2⟩ := bytesA_sim hl h2
        exact ⟨n :: ns, by rw [e1]; simp only [List.map_cons]; rw [show _ = Value.int .u8 n from h1], by rw [e2]; rfl⟩
      · cases h
    · cases h
theorem rowA_spec {id o n : Nat} {cs : List AT} (h : rowA H id o n = some cs) : ∃ T k c, H.get id = some (.cells T k c) ∧ o + n ≤ c.length ∧ cs = (c.drop o).take n := by
  unfold rowA at h
  split at h
  · rename_i T k c hc
    cases hle : Nat.ble (o + n) c.length
    · rw [hle] at h; cases h
    · rw [hle] at h; cases h; exact ⟨T, k, c, hc, Nat.le_of_ble_eq_true hle, rfl⟩
  · cases h
/-- A stretch of a laid object as values in the world. -/
theorem row_laid (hR : R P base H α w) {id o n : Nat} {cs : List AT} (h : rowA H id o n = some cs) : ∃ L vs, α id = some L ∧ F2 (AR α) cs vs ∧ vs.length = n ∧
    ∀ j v, vs[j]? = some v → w.cell? ((⟨L.blk, L.off + o, none⟩ : Addr).add j) = some v := by
  obtain ⟨T, k, c, h1, h2, rfl⟩ := rowA_spec h
  obtain ⟨L, arr, fz, e1, e2, e3, e4, _⟩ := hR.obj _ _ h1
  refine ⟨L, (arr.toList.drop (L.off + o)).take n, e1, seg_vals e4 o n h2 e3, by simp; omega, seg_cells e2 _ _⟩

theorem sim_convert (hR : R P base H α w) (hE : EnvR α lk a) {o : Oper} {s d : TypeId} {x : Operand} (ho : o.op = .convert s d x) {v : AV} {H' : Heap} (h : op_convert s d x P eqs lk H = some (.val v H')) :
    Res P base H α w ((execOp a.eval o).run P w) v H' := by
  unfold op_convert at h
  split at h
  · rename_i u hu
    split at h
    · rename_i b hb
      cases h
      have h1 := rho_sim hE hu
      unfold convA at hb
      split at hb
      · rename_i k n
        have e1 : a.eval x = .int k n := h1
        split at hb
        · rename_i k1 k2 hs hd
          cases hb
          refine Res.pure hR (u := .int k2 (k2.wrap n)) ?_ (by rw [wrapA_eq]; rfl)
          simp [execOp, ho, e1, convert, run_underlying hs, run_underlying hd, Conv.intToInt]
        · cases hb
      · rename_i id oo n
        split at hb
        · rename_i e hs hd
          cases hu8 : isU8 (P.underlying e)
          · rw [hu8] at hb; cases hb
          · rw [hu8] at hb
            simp only [cond_true] at hb
            split at hb
            · rename_i cs hcs
              split at hb
              · rename_i l hl
                cases hb
                obtain ⟨L, vs, e1, e2, e3, e4⟩ := row_laid hR hcs
                obtain ⟨ns, q1, q2⟩ := bytesA_sim hl e2
                have hev : P.underlying e = some (.int .u8) := by
                  unfold isU8 at hu8
                  split at hu8
                  · assumption
                  · cases hu8
                obtain ⟨L', c, hL, hnc, _, hsl⟩ := h1
                rw [e1] at hL; cases hL
                rcases hsl with ⟨hsl, _⟩ | ⟨h0, _, ad, hsl⟩
                · have hld := run_loadCells_list (P := P) w _ vs e4
                  rw [e3, q1] at hld
                  have hb := run_bytesToString (P := P) w ⟨L.blk, L.off + oo, none⟩ n c ns hld
                  refine Res.pure hR (u := .string (ns.foldl (fun r n => r.push (UInt8.ofNat n.toNat)) ByteArray.empty)) ?_ ?_
                  · simp only [execOp, ho, hsl, convert, Sem.run_bind, run_underlying hs, run_underlying hd, run_underlying hev, Result.andThen_ok]
                    rw [hb]
                    rfl
                  · exact ⟨_, rfl, by rw [q2, foldl_push]; rfl⟩
                · subst h0
                  have hl0 : l = [] := by rw [q2]; cases ns with | nil => rfl | cons _ _ => rw [q1] at e3; simp at e3
                  subst hl0
                  refine Res.pure hR (u := .string .empty) ?_ ⟨_, rfl, rfl⟩
                  cases ad with
                  | none => simp [execOp, ho, hsl, convert, run_underlying hs, run_underlying hd, run_underlying hev, Conv.bytesToString]
                  | some ad =>
                    have hb := run_bytesToString (P := P) w ad 0 c [] rfl
                    simp only [execOp, ho, hsl, convert, Sem.run_bind, run_underlying hs, run_underlying hd, run_underlying hev, Result.andThen_ok]
                    rw [hb]
                    rfl
              · cases hb
            · cases hb
        · cases hb
      · cases hb
    · cases h
  · cases h

/-! ### literals -/
theorem partsOf_sim (hE : EnvR α lk a) : ∀ {l : List (Nat × Operand)} {m : List (Nat × AV)}, partsOf lk l = some m → F2 (fun p q => p.1 = q.1 ∧ VR α p.2 q.2) m (l.map fun p => (p.1, a.eval p.2))
  | [], m, h => by cases h; exact .nil
  | x :: r, m, h => by
    have h' : (match rho lk x.2, partsOf lk r with
      | some b, some l => some ((x.1, b) :: l)
      | _, _ => none) = some m := h
    split at h'
    · rename_i b l h1 h2; cases h'; exact .cons ⟨rfl, rho_sim hE h1⟩ (partsOf_sim hE h2)
    · cases h'
theorem foldl_set (xs : List Value) : ∀ (off k : Nat) (cs : Array Value), off + k + xs.length ≤ cs.size →
    ((xs.zipIdx k).foldl (fun cs (p : Value × Nat) => cs.setIfInBounds (off + p.2) p.1) cs).toList = cs.toList.take (off + k) ++ xs ++ cs.toList.drop (off + k + xs.length) := by
  induction xs with
  | nil => intro off k cs _; simp
  | cons x r ih =>
    intro off k cs h
    simp only [List.zipIdx_cons, List.foldl_cons]
    simp only [List.length_cons] at h
    rw [ih off (k + 1) _ (by simp; omega)]
    apply List.ext_getElem?
    intro j
    have e1 : off + (k + 1) = off + k + 1 := by omega
    rw [e1]
    rw [putL_get (by simp; omega), putL_get (by simp; omega)]
    simp only [Array.toList_setIfInBounds, List.length_cons, List.getElem?_set]
    by_cases c1 : j = off + k
    · subst c1
      have : off + k < cs.size := by omega
      simp [this]; omega
    · by_cases c2 : off + k + 1 ≤ j ∧ j < off + k + 1 + r.length
      · rw [if_pos c2, if_pos (by omega), show j - (off + k) = (j - (off + k + 1)) + 1 from by omega, List.getElem?_cons_succ]
      · rw [if_neg c2, if_neg (by omega), if_neg (by omega)]
theorem fillA_sim {place : Nat → Option (Nat × Nat)} : ∀ {ps : List (Nat × AV)} {qs : List (Nat × Value)} {cs out : List AT} {arr : Array Value}, fillA place cs ps = some out →
    F2 (fun p q => p.1 = q.1 ∧ VR α p.2 q.2) ps qs → F2 (AR α) cs arr.toList → ∃ arr', Instr.fill place arr qs = some arr' ∧ F2 (AR α) out arr'.toList
  | [], _, cs, out, arr, h, .nil, hc => by simp only [fillA] at h; cases h; exact ⟨arr, rfl, hc⟩
  | (i, .one x) :: r, _, cs, out, arr, h, .cons (b := (i', v)) h1 h2, hc => by
    simp only [fillA] at h
    obtain ⟨h11, h12⟩ := h1
    simp only at h11 h12
    subst h11
    simp only [Instr.fill]
    split at h
    · rename_i off size hp
      cases hcond : (Nat.beq x.cells.length size && Nat.ble (off + size) cs.length)
      · rw [hcond] at h; cases h
      · rw [hcond] at h
        simp only [cond_true] at h
        simp only [Bool.and_eq_true, Nat.beq_eq, Nat.ble_eq] at hcond
        obtain ⟨g1, g2⟩ := hcond
        have hx : V1 α x v := h12
        have hxc := hx.cells
        have hl : v.cells.size = size := by rw [← g1, hxc.length]; simp
        have hsz : arr.size = cs.length := by rw [hc.length]; simp
        have hlen : v.cells.toList.length = x.cells.length := hxc.length.symm
        simp only [hp]
        rw [if_neg (by rw [hl]; simp; omega)]
        refine fillA_sim h h2 ?_
        have hf := foldl_set v.cells.toList off 0 arr (by simp; omega)
        have e : (v.cells.zipIdx.foldl (fun cs (x : Value × Nat) => cs.setIfInBounds (off + x.2) x.1) arr).toList = arr.toList.take off ++ v.cells.toList ++ arr.toList.drop (off + v.cells.toList.length) := by
          rw [← Array.foldl_toList]
          simpa using hf
        show F2 (AR α) (putL cs off x.cells) _
        rw [e]
        unfold putL
        rw [hlen]
        exact ((hc.take off).append hxc).append (hc.drop _)
    · cases h
  | (_, .tup _) :: _, _, cs, out, arr, h, _, _ => by simp only [fillA] at h; cases h

theorem run_placesA : ∀ {l : List Field} {pl : List (Nat × Nat)}, placesA P l = some pl → ∀ w, (l.mapM fun f => do pure (f.offset, ← sizeOf f.type) : Sem (List (Nat × Nat))).run P w = .ok pl w
  | [], pl, h, w => by cases h; rfl
  | f :: r, pl, h, w => by
    have h' : (match sizeO P f.type, placesA P r with
      | some n, some r => some ((f.offset, n) :: r)
      | _, _ => none) = some pl := h
    split at h'
    · rename_i n q h1 h2
      cases h'
      have := run_placesA h2 w
      simp only [List.mapM_cons, Sem.run_bind, run_sizeO h1, Result.andThen_ok, Sem.run_pure]
      try simp only [Sem.run_bind] at this
      rw [this]; rfl
    · cases h'

theorem sim_build (hR : R P base H α w) (hE : EnvR α lk a) {o : Oper} {T : TypeId} {parts : Array (Nat × Operand)} (ho : o.op = .build T parts) {v : AV} {H' : Heap} (h : op_build T parts P eqs lk H = some (.val v H')) :
    Res P base H α w ((execOp a.eval o).run P w) v H' := by
  unfold op_build at h
  split at h
  · rename_i z fields ps hz hu hps
    split at h
    · rename_i pl hpl
      split at h
      · rename_i cs hcs
        cases h
        obtain ⟨zv, e1, e2⟩ := run_zeroOf (α := α) hz w
        obtain ⟨arr, rfl, e3⟩ := e2
        have hq := partsOf_sim hE hps
        obtain ⟨arr', g1, g2⟩ := fillA_sim hcs hq e3
        refine Res.pure hR (u := .agg arr') ?_ ⟨arr', rfl, g2⟩
        have hp := run_placesA hpl w
        simp only [execOp, ho, Instr.build, Sem.run_bind, e1, Result.andThen_ok, run_underlying hu, Value.cells, Array.mapM_eq_mapM_toList, Sem.run_map]
        try simp only [Sem.run_bind] at hp
        rw [hp]
        have g1' : Instr.fill (fun x => pl.toArray[x]?) arr (parts.map fun x => (x.1, a.eval x.2)).toList = some arr' := by
          simpa using g1
        simp only [Result.andThen_ok]
        rw [g1']
        rfl
      · cases h
    · cases h
  · rename_i z n e ps hz hu hps
    split at h
    · rename_i m hm
      split at h
      · rename_i cs hcs
        cases h
        obtain ⟨zv, e1, e2⟩ := run_zeroOf (α := α) hz w
        obtain ⟨arr, rfl, e3⟩ := e2
        have hq := partsOf_sim hE hps
        obtain ⟨arr', g1, g2⟩ := fillA_sim hcs hq e3
        refine Res.pure hR (u := .agg arr') ?_ ⟨arr', rfl, g2⟩
        have g1' : Instr.fill (fun i => some (i * m, m)) arr (parts.map fun x => (x.1, a.eval x.2)).toList = some arr' := by
          simpa using g1
        simp only [execOp, ho, Instr.build, Sem.run_bind, e1, Result.andThen_ok, run_underlying hu, Value.cells, run_sizeO hm]
        rw [g1']
        rfl
      · cases h
    · cases h
  · cases h

/-- n cells of a zero value, one after the other. -/
theorem range_zero {zc : List AT} {z : Array Value} (hz : F2 (AR α) zc z.toList) (m : Nat) (h0 : 0 < zc.length) :
    F2 (AR α) ((List.range m).map fun i => (zc[i % zc.length]?).getD .nilIf) ((Array.range m).map fun i => z[i % z.size]!).toList := by
  have hl : zc.length = z.size := by rw [hz.length]; simp
  refine F2.mk' (by simp) fun j x y hx hy => ?_
  have hj : j < m := by
    rw [List.getElem?_eq_some_iff] at hx; obtain ⟨h, _⟩ := hx; simpa using h
  have hm : j % zc.length < zc.length := Nat.mod_lt _ h0
  have hm' : j % z.size < z.size := by rw [← hl]; exact hm
  simp only [List.getElem?_map, List.getElem?_range hj, Option.map_some, Option.some.injEq] at hx
  rw [List.getElem?_eq_getElem hm] at hx
  simp only [Option.getD_some] at hx
  simp only [Array.toList_map, Array.toList_range, List.getElem?_map, List.getElem?_range hj, Option.map_some, Option.some.injEq] at hy
  rw [getElem!_pos z _ hm'] at hy
  subst hx hy
  refine hz.get2 (List.getElem?_eq_getElem hm) ?_
  rw [Array.getElem?_toList, show j % zc.length = j % z.size from by rw [hl]]
  exact Array.getElem?_eq_getElem hm'
theorem OR.fresh2 {T : TypeId} {cs : List AT} {vs : List Value} {info : TypeInfo} {cap : Nat} (hv : F2 (AR α) cs vs) (hb : base ≤ w.heap.size) (hd : α H.n = none) (hi : P.info? T = some info) (hc : vs.length = cap * info.size) (hm : cap ≤ maxLen) :
    OR P base (upd α H.n ⟨w.heap.size, 0, cap⟩) (w.alloc (.cells vs.toArray T)) H.n (.cells T 2 cs) := by
  refine ⟨_, vs.toArray, (0, 0), upd_self _ _ _, by simpa using heap_alloc_new w _, by simp [hv.length], fun j q hq => ?_, fun _ => ⟨hb, rfl⟩, fun _ => ⟨rfl, hm, info, hi, by simpa using hc⟩⟩
  obtain ⟨v, h1, h2⟩ := hv.get hq
  exact ⟨v, by simpa using h1, h2.mono (sub_upd hd)⟩
theorem sizeO_info {t : TypeId} {n : Nat} (h : sizeO P t = some n) : ∃ i, P.info? t = some i ∧ i.size = n := by
  unfold sizeO at h
  split at h
  · rename_i i hi; cases h; exact ⟨i, hi, rfl⟩
  · cases h
theorem zeroOf_spec {t : TypeId} {x : A1} (h : zeroOf P t = some x) : ∃ i z, P.info? t = some i ∧ i.zero = some z ∧ cv1 z = some x := by
  unfold zeroOf at h
  split at h
  · rename_i i hi
    split at h
    · rename_i z hz; exact ⟨i, z, hi, hz, h⟩
    · cases h
  · cases h
theorem z_cells {x : A1} {z : Value} (h : V1 α x z) : z.cells.size = x.cells.length := by
  rw [h.cells.length]; simp

theorem mk_buildSlice (hb : base ≤ w.heap.size) (hd : α H.n = none) (hE : EnvR α lk a) {o : Oper} {T : TypeId} {len : Nat} {parts : Array (Nat × Operand)} (ho : o.op = .buildSlice T len parts) {v : AV} {H' : Heap} (h : op_buildSlice T len parts P eqs lk H = some (.val v H')) :
    ∃ obj, H' = H.push obj ∧ Fresh P base α w ((execOp a.eval o).run P w) H.n v obj := by
  unfold op_buildSlice at h
  split at h
  · rename_i e ps hu hps
    split at h
    · rename_i n z hn hz
      cases hcond : (Nat.ble (len * n) 16777216 && Nat.ble 1 n && Nat.beq z.cells.length n && Nat.ble len 9223372036854775807)
      · rw [hcond] at h; cases h
      · rw [hcond] at h
        simp only [cond_true] at h
        simp only [Bool.and_eq_true, Nat.ble_eq, Nat.beq_eq] at hcond
        obtain ⟨⟨⟨c1, c2⟩, c3⟩, c4⟩ := hcond
        split at h
        · rename_i cs hcs
          cases h
          obtain ⟨zv, e1, e2⟩ := run_zeroOf (α := α) hz w
          have hq := partsOf_sim hE hps
          have hrz := range_zero (m := len * n) e2.cells (by omega)
          obtain ⟨arr', g1, g2⟩ := fillA_sim hcs hq hrz
          obtain ⟨info, hi, hisz⟩ := sizeO_info hn
          have hfill : arr'.size = len * n := by
            have : ∀ {place : Nat → Option (Nat × Nat)} {qs : List (Nat × Value)} {x y : Array Value}, Instr.fill place x qs = some y → y.size = x.size := by
              intro place qs
              induction qs with
              | nil => intro x y h; simp only [Instr.fill] at h; cases h; rfl
              | cons q r ih =>
                intro x y h
                obtain ⟨i, v⟩ := q
                simp only [Instr.fill] at h
                split at h
                · cases h
                · split at h
                  · cases h
                  · rw [ih h]
                    have hs : ∀ (l : List (Value × Nat)) (k : Nat) (c : Array Value), (l.foldl (fun cs (x : Value × Nat) => cs.setIfInBounds (k + x.2) x.1) c).size = c.size := by
                      intro l
                      induction l with
                      | nil => intro k c; rfl
                      | cons p l ih => intro k c; rw [List.foldl_cons, ih]; simp
                    rw [← Array.foldl_toList]
                    exact hs _ _ _
            rw [this g1]; simp
          refine ⟨_, rfl, .slice (some ⟨w.heap.size, 0, none⟩) len len, .cells arr' e, ⟨w.heap.size, 0, len⟩, ?_, rfl, ?_, ?_, RowKit.frozen?_alloc_cells _ _ _⟩
          · have g1' : Instr.fill (fun i => some (i * n, n)) ((Array.range (len * n)).map fun i => zv.cells[i % zv.cells.size]!) (parts.map fun x => (x.1, a.eval x.2)).toList = some arr' := by
              simpa using g1
            simp only [execOp, ho, Instr.buildSlice, Sem.run_bind, run_underlying (isSliceD_spec hu), Result.andThen_ok, run_sizeO hn]
            rw [if_neg (by omega)]
            by_cases h0 : len * n = 0
            · rw [if_pos h0]
              rw [h0] at g1' ⊢
              simp only [Array.range_zero', Array.map_empty] at g1' ⊢
              simp only [Sem.run_bind, Sem.run_pure, Result.andThen_ok]
              rw [g1']
              rfl
            · rw [if_neg h0]
              simp only [Sem.run_bind, e1, Sem.run_pure, Result.andThen_ok]
              rw [g1']
              rfl
          · exact ⟨_, len, upd_self _ _ _, Nat.le_refl _, by unfold maxLen; omega, .inl ⟨by simp, fun _ => rfl⟩⟩
          · have := OR.fresh2 (P := P) (H := H) (T := e) (cap := len) (vs := arr'.toList) g2 hb hd hi (by rw [hisz]; simpa using hfill) (by unfold maxLen; omega)
            exact by simpa using this
        · cases h
    · cases h
  · cases h

theorem sim_buildSlice (hR : R P base H α w) (hE : EnvR α lk a) {o : Oper} {T : TypeId} {len : Nat} {parts : Array (Nat × Operand)} (ho : o.op = .buildSlice T len parts) {v : AV} {H' : Heap} (h : op_buildSlice T len parts P eqs lk H = some (.val v H')) :
    Res P base H α w ((execOp a.eval o).run P w) v H' := Fresh.res hR (mk_buildSlice (eqs := eqs) (lk := lk) hR.bs (hR.dom _ (Nat.le_refl _)) hE ho h)

theorem mk_makeMap (hb : base ≤ w.heap.size) (_ : α H.n = none) {o : Oper} {T : TypeId} {r : Option Operand} (ho : o.op = .makeMap T r) {v : AV} {H' : Heap} (h : op_makeMap T r P eqs lk H = some (.val v H')) :
    ∃ obj, H' = H.push obj ∧ Fresh P base α w ((execOp a.eval o).run P w) H.n v obj := by
  unfold op_makeMap at h
  split at h
  · cases h
    refine ⟨_, rfl, .map (some w.heap.size), .map #[] 0, ⟨w.heap.size, 0, 0⟩, ?_, rfl, ⟨_, upd_self _ _ _, rfl⟩, ?_, frozen_map _ _ _⟩
    · simp [execOp, ho, Instr.makeMap]
    · exact ⟨_, #[], 0, upd_self _ _ _, by simpa using heap_alloc_new w _, hb, .nil⟩
  · cases h

theorem sim_makeMap (hR : R P base H α w) {o : Oper} {T : TypeId} {r : Option Operand} (ho : o.op = .makeMap T r) {v : AV} {H' : Heap} (h : op_makeMap T r P eqs lk H = some (.val v H')) :
    Res P base H α w ((execOp a.eval o).run P w) v H' := Fresh.res hR (mk_makeMap (eqs := eqs) (lk := lk) hR.bs (hR.dom _ (Nat.le_refl _)) ho h)

theorem mk_makeSlice (hb : base ≤ w.heap.size) (hd : α H.n = none) (hE : EnvR α lk a) {o : Oper} {t : TypeId} {l c : Operand} (ho : o.op = .makeSlice t l c) {v : AV} {H' : Heap} (h : op_makeSlice t l c P eqs lk H = some (.val v H')) :
    ∃ obj, H' = H.push obj ∧ Fresh P base α w ((execOp a.eval o).run P w) H.n v obj := by
  unfold op_makeSlice at h
  split at h
  · rename_i e lv cv hu hl hc
    split at h
    · rename_i i z n n' hi hz hn hn'
      split at h
      · rename_i hcond
        cases h
        obtain ⟨rfl, h0, hby, hm, hs, hzs⟩ := hcond
        obtain ⟨k, hk⟩ := intA_sim hn (rho_sim hE hl)
        obtain ⟨k', hk'⟩ := intA_sim hn' (rho_sim hE hc)
        obtain ⟨i', zv, hi', e1, e2⟩ := zeroOf_spec hz
        rw [hi] at hi'; cases hi'
        have e2 := cv1_sim (α := α) e2
        have hrz := range_zero (m := n.toNat * i.size) e2.cells (by omega)
        refine ⟨_, rfl, .slice (some ⟨w.heap.size, 0, none⟩) n.toNat n.toNat, .cells ((Array.range (n.toNat * i.size)).map fun j => zv.cells[j % zv.cells.size]!) e, ⟨w.heap.size, 0, n.toNat⟩, ?_, rfl, ?_, ?_, RowKit.frozen?_alloc_cells _ _ _⟩
        · have := run_make (P := P) w t e i zv (isSliceD_spec hu) hi e1 k k' n n h0 (Int.le_refl _) (by rw [Int.mul_comm]; omega) hm
          simp only [execOp, ho, hk, hk', Sem.run_bind, this, Result.andThen_ok, Sem.run_pure]
          rfl
        · exact ⟨_, n.toNat, upd_self _ _ _, Nat.le_refl _, by unfold maxLen; omega, .inl ⟨by simp, fun _ => rfl⟩⟩
        · have := OR.fresh2 (P := P) (H := H) (T := e) (cap := n.toNat) (vs := ((Array.range (n.toNat * i.size)).map fun j => zv.cells[j % zv.cells.size]!).toList) hrz hb hd hi (by simp) (by unfold maxLen; omega)
          rw [Array.toArray_toList] at this
          exact this
      · cases h
    · cases h
  · cases h
theorem sim_makeSlice (hR : R P base H α w) (hE : EnvR α lk a) {o : Oper} {t : TypeId} {l c : Operand} (ho : o.op = .makeSlice t l c) {v : AV} {H' : Heap} (h : op_makeSlice t l c P eqs lk H = some (.val v H')) :
    Res P base H α w ((execOp a.eval o).run P w) v H' := Fresh.res hR (mk_makeSlice (eqs := eqs) (lk := lk) hR.bs (hR.dom _ (Nat.le_refl _)) hE ho h)

end
end Go.Ea
