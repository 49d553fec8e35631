/-
  THE ENGINE, part 6: maps, append, the builtins, calls; and all operations in one theorem. Over any program. Written in this session.
-/
import Derived.Test.YtceakkomleaibaaEa5
namespace Go.Ea
section
variable {P : Program} {base : Nat} {H : Heap} {α : Al} {w : World} {a : Act} {lk : Nat → Option AV} {eqs : Eqs}

theorem ba_data (x y : ByteArray) : (x == y) = (x.data == y.data) := by
  cases x; cases y; rfl
theorem ba_eq {x y : ByteArray} (h : (x == y) = true) : x = y := by
  rw [ba_data] at h
  have : x.data = y.data := by simpa using h
  cases x; cases y; simp_all
theorem ba_beq (x y : ByteArray) : (x == y) = (x.data.toList == y.data.toList) := by
  rw [ba_data]
  by_cases e : x.data = y.data
  · rw [e]; simp
  · have h1 : (x.data == y.data) = false := by simpa using e
    have h2 : (x.data.toList == y.data.toList) = false := by
      rw [beq_eq_false_iff_ne]; intro h; exact e (Array.toList_inj.1 h)
    rw [h1, h2]
theorem sameNow_sim {d : TypeDesc} {k k' : AT} {v v' : Value} {b : Bool} (hd : keyD (some d) k = true) (h : keyA k k' = some b) (hv : AR α k v) (hv' : AR α k' v') :
    Instr.sameNow d v v' = some b ∧ (b = true → ∀ n, Instr.sameBits n v' v = true) := by
  unfold keyA at h
  split at h
  · rename_i kk x kk' y
    split at h
    · rename_i e
      cases h; subst e
      have e1 : v = .int kk x := hv
      have e2 : v' = .int kk y := hv'
      subst e1 e2
      cases d <;> simp only [keyD, Bool.false_eq_true] at hd
      refine ⟨by simp [Instr.sameNow], fun hb n => ?_⟩
      have : x = y := by simpa using hb
      subst this
      cases n <;> simp [Instr.sameBits]
    · cases h
  · rename_i x y
    cases h
    obtain ⟨s, e1, hs⟩ := hv
    obtain ⟨s', e2, hs'⟩ := hv'
    subst e1 e2 hs hs'
    cases d <;> simp only [keyD, Bool.false_eq_true] at hd
    rw [eqS_eq]
    refine ⟨by simp only [Instr.sameNow]; rw [ba_beq], fun hb n => ?_⟩
    rw [← ba_beq] at hb
    have := ba_eq hb
    subst this
    cases n <;> simp only [Instr.sameBits, hb]
  · rename_i x y
    cases h
    have e1 : v = .bool x := hv
    have e2 : v' = .bool y := hv'
    subst e1 e2
    cases d <;> simp only [keyD, Bool.false_eq_true] at hd
    refine ⟨by simp [Instr.sameNow], fun hb n => ?_⟩
    have : x = y := by simpa using hb
    subst this
    cases n <;> simp [Instr.sameBits]
  · cases h

abbrev MR (α : Al) (e : AT × A1) (m : MapEntry) : Prop := AR α e.1 m.key ∧ V1 α e.2 m.val
theorem findA_sim {d : TypeDesc} {k : AT} {v : Value} (hd : keyD (some d) k = true) (hv : AR α k v) : ∀ {es : List (AT × A1)} {ms : List MapEntry} {i : Nat} {r : Option (Nat × A1)}, findA k es i = some r → F2 (MR α) es ms →
    match r with
    | none => Instr.findNow d v ms i = some none
    | some (j, x) => i ≤ j ∧ ∃ m, ms[j - i]? = some m ∧ Instr.findNow d v ms i = some (some (j, m.val)) ∧ V1 α x m.val ∧ ∀ n, Instr.sameBits n m.key v = true
  | [], _, i, r, h, .nil => by simp only [findA] at h; cases h; rfl
  | e :: es, m :: ms, i, r, h, .cons h1 h2 => by
    simp only [findA] at h
    split at h
    · rename_i hk
      cases h
      obtain ⟨g1, g2⟩ := sameNow_sim hd hk hv h1.1
      refine ⟨Nat.le_refl _, m, by simp, ?_, h1.2, g2 rfl⟩
      simp only [Instr.findNow, g1]
    · rename_i hk
      obtain ⟨g1, _⟩ := sameNow_sim hd hk hv h1.1
      have ih := findA_sim hd hv h h2
      cases r with
      | none =>
        simp only at ih ⊢
        simp only [Instr.findNow, g1]; exact ih
      | some p =>
        obtain ⟨j, x⟩ := p
        simp only at ih ⊢
        obtain ⟨q1, m', q2, q3, q4, q5⟩ := ih
        refine ⟨by omega, m', ?_, ?_, q4, q5⟩
        · rw [show j - i = (j - (i + 1)) + 1 from by omega, List.getElem?_cons_succ]; exact q2
        · simp only [Instr.findNow, g1]; exact q3
    · cases h

theorem run_checkKey {kt : TypeId} {d : TypeDesc} {k : AT} {v : Value} (hu : P.underlying kt = some d) (hd : keyD (some d) k = true) (hv : AR α k v) (n : Nat) (e : Bool) (w : World) : (Instr.checkKey e (n + 1) kt v).run P w = .ok () w := by
  cases d <;> cases k <;> simp only [keyD, Bool.false_eq_true] at hd
  · have e1 : v = .bool _ := hv
    subst e1; simp [Instr.checkKey, run_underlying hu]
  · have e1 : v = .int _ _ := hv
    subst e1; simp [Instr.checkKey, run_underlying hu]
  · obtain ⟨s, e1, _⟩ := hv
    subst e1; simp [Instr.checkKey, run_underlying hu]
theorem run_getMap {r : Nat} {c : Array MapEntry} {clk : Nat} (h : w.heap[r]? = some (.map c clk)) : (getObj r).run P w = .ok (.map c clk) w := by
  simp [getObj, Sem.run, h]
theorem keyD_some {o : Option TypeDesc} {k : AT} (h : keyD o k = true) : ∃ d, o = some d := by
  cases o with
  | none => cases k <;> cases h
  | some d => exact ⟨d, rfl⟩

theorem sim_lookup (hR : R P base H α w) (hE : EnvR α lk a) {o : Oper} {t : TypeId} {x ix : Operand} {ok : Bool} (ho : o.op = .lookup t x ix ok) {v : AV} {H' : Heap} (h : op_lookup t x ix ok P eqs lk H = some (.val v H')) :
    Res P base H α w ((execOp a.eval o).run P w) v H' := by
  unfold op_lookup at h
  split at h
  · rename_i m k hm hk
    split at h
    · rename_i r hr
      cases h
      have hm' := rho_sim hE hm
      have hk' := rho_sim hE hk
      unfold lookupA at hr
      split at hr
      · rename_i kt et id key hu
        cases hkd : keyD (P.underlying kt) key
        · rw [hkd] at hr; cases hr
        · rw [hkd] at hr
          simp only [cond_true] at hr
          obtain ⟨d, hd⟩ := keyD_some hkd
          rw [hd] at hkd
          obtain ⟨L, hL, he⟩ := hm'
          split at hr
          · rename_i es hes
            obtain ⟨L', c, clk, e1, e2, e3, e4⟩ := hR.obj _ _ hes
            rw [hL] at e1; cases e1
            have hck := run_checkKey (P := P) hd hkd hk' 9999 c.isEmpty w
            have hchk : (Instr.checkKey c.isEmpty 10000 kt (a.eval ix)).run P w = .ok () w := hck
            split at hr
            · rename_i i y hf
              have hfs := findA_sim hkd hk' hf e4
              obtain ⟨_, mm, _, q3, q4, _⟩ := hfs
              cases hr
              refine Res.pure hR (u := if ok then .tuple #[mm.val, .bool true] else mm.val) ?_ ?_
              · simp only [execOp, ho, he, Instr.lookup, Sem.run_bind, run_underlying hu, Result.andThen_ok, run_getMap e2, Sem.run_pure, hchk, Instr.findKey, run_underlying hd, q3]
              · cases ok
                · exact q4
                · exact ⟨_, rfl, .cons q4 (.cons rfl .nil)⟩
            · rename_i hf
              have hfs := findA_sim hkd hk' hf e4
              simp only at hfs
              split at hr
              · rename_i z hz
                cases hr
                obtain ⟨zv, g1, g2⟩ := run_zeroOf (α := α) hz w
                refine Res.pure hR (u := if ok then .tuple #[zv, .bool false] else zv) ?_ ?_
                · simp only [execOp, ho, he, Instr.lookup, Sem.run_bind, run_underlying hu, Result.andThen_ok, run_getMap e2, Sem.run_pure, hchk, Instr.findKey, run_underlying hd, hfs, g1]
                · cases ok
                  · exact g2
                  · exact ⟨_, rfl, .cons g2 (.cons rfl .nil)⟩
              · cases hr
            · cases hr
          · cases hr
      · cases hr
    · cases h
  · cases h

theorem run_setMap {r : Nat} {c c' : Array MapEntry} {clk clk' : Nat} (h : w.heap[r]? = some (.map c clk)) : (setObj r (.map c' clk')).run P w = .ok () { w with heap := w.heap.setIfInBounds r (.map c' clk') } := by
  simp [setObj, Sem.run, h]

theorem sim_mapUpdate (hR : R P base H α w) (hE : EnvR α lk a) {o : Oper} {t : TypeId} {m k x : Operand} (ho : o.op = .mapUpdate t m k x ∨ o.op = .insert t m k x) {v : AV} {H' : Heap} (h : op_mapUpdate t m k x P eqs lk H = some (.val v H')) :
    Res P base H α w ((execOp a.eval o).run P w) v H' := by
  unfold op_mapUpdate at h
  split at h
  · rename_i mv kv xv hm hk hx
    split at h
    · rename_i H2 hr
      cases h
      have hm' := rho_sim hE hm
      have hk' := rho_sim hE hk
      have hx' := rho_sim hE hx
      unfold updateA at hr
      split at hr
      · rename_i kt et id key y hu
        cases hkd : keyD (P.underlying kt) key
        · rw [hkd] at hr; cases hr
        · rw [hkd] at hr
          simp only [cond_true] at hr
          obtain ⟨d, hd⟩ := keyD_some hkd
          rw [hd] at hkd
          obtain ⟨L, hL, he⟩ := hm'
          split at hr
          · rename_i es hes
            obtain ⟨L', c, clk, e1, e2, e3, e4⟩ := hR.obj _ _ hes
            rw [hL] at e1; cases e1
            have hlt : L.blk < w.heap.size := (Array.getElem?_eq_some_iff.1 e2).1
            have hck := run_checkKey (P := P) hd hkd hk' 9999 false w
            have hchk : (Instr.checkKey false 10000 kt (a.eval k)).run P w = .ok () w := hck
            have hexec : (execOp a.eval o) = (do Instr.mapUpdate t (a.eval m) (a.eval k) (a.eval x); pure .skip) := by
              rcases ho with ho | ho <;> simp only [execOp, ho]
            have wr : ∀ (c' : Array MapEntry) (clk' : Nat) (es' : List (AT × A1)), F2 (MR α) es' c'.toList →
                R P base (H.set id (.map es')) α { w with heap := w.heap.setIfInBounds L.blk (.map c' clk') } ∧ Ext H α w (H.set id (.map es')) α { w with heap := w.heap.setIfInBounds L.blk (.map c' clk') } := fun c' clk' es' hf =>
              R.write hR hes rfl hL rfl ⟨rfl, rfl, rfl⟩ (by simp) (fun j hj => by simp [Ne.symm hj]) (frozen_setMap e2) ⟨L, c', clk', hL, by simp [hlt], e3, hf⟩
            split at hr
            · rename_i i z hf
              have hfs := findA_sim hkd hk' hf e4
              obtain ⟨_, mm, q2, q3, q4, q5⟩ := hfs
              cases hr
              rw [Nat.sub_zero] at q2
              refine ⟨.skip, undef, { w with heap := w.heap.setIfInBounds L.blk (.map (c.modify i fun e => { e with key := a.eval k, val := a.eval x }) clk) }, α, ?_, .inr ⟨rfl, rfl⟩, ⟨#[], rfl, .nil⟩, wr _ _ _ ?_⟩
              · have hci : c[i]? = some mm := by simpa using q2
                have hks : (Instr.keyThatStays (((c[i]?).map (·.key)).getD (a.eval k)) (a.eval k)).run P w = .ok (a.eval k) w := by
                  rw [hci]
                  simp only [Option.map_some, Option.getD_some]
                  unfold Instr.keyThatStays
                  rw [if_pos (q5 10000)]; rfl
                rw [hexec]
                simp only [he, Instr.mapUpdate, Sem.run_bind, run_underlying hu, Result.andThen_ok, run_getMap e2, hchk, Instr.findKey, run_underlying hd, q3, Sem.run_pure, hks, run_setMap e2]
              · have hil : i < c.size := by
                  rw [List.getElem?_eq_some_iff] at q2; obtain ⟨hh, _⟩ := q2; simpa using hh
                rw [Array.toList_modify]
                have hme : c.toList.modify i (fun e => { e with key := a.eval k, val := a.eval x }) = c.toList.set i { mm with key := a.eval k, val := a.eval x } := by
                  apply List.ext_getElem?
                  intro j
                  rw [List.getElem?_modify, List.getElem?_set]
                  by_cases hj : i = j
                  · subst hj; have hil' : i < c.toList.length := by rw [Array.length_toList]; exact hil
                    rw [q2]; simp only [if_true]; rw [if_pos hil']; rfl
                  · simp [hj]
                rw [hme]
                exact e4.set i ⟨hk', hx'⟩
            · rename_i hf
              have hfs := findA_sim hkd hk' hf e4
              simp only at hfs
              cases hr
              refine ⟨.skip, undef, { w with heap := w.heap.setIfInBounds L.blk (.map (c.push { key := a.eval k, val := a.eval x, born := clk }) (clk + 1)) }, α, ?_, .inr ⟨rfl, rfl⟩, ⟨#[], rfl, .nil⟩, wr _ _ _ ?_⟩
              · rw [hexec]
                simp only [he, Instr.mapUpdate, Sem.run_bind, run_underlying hu, Result.andThen_ok, run_getMap e2, hchk, Instr.findKey, run_underlying hd, hfs, Sem.run_pure, run_setMap e2]
              · rw [Array.toList_push]
                exact e4.append (.cons ⟨hk', hx'⟩ .nil)
            · cases hr
          · cases hr
      · cases hr
    · cases h
  · cases h

/-! ### append -/
/-- A new object at a block that no live one uses. -/
theorem R.place {w' : World} {o : AObj} {L : Loc} (h : R P base H α w) (hsz : w.heap.size ≤ w'.heap.size) (hb : ∀ k, k < w.heap.size → k ≠ L.blk → w'.heap[k]? = w.heap[k]?)
    (hu : ∀ j oj Lj, H.get j = some oj → oj.live = true → α j = some Lj → Lj.blk ≠ L.blk) (hO : OR P base (upd α H.n L) w' H.n o) : R P base (H.push o) (upd α H.n L) w' := by
  have hs : Sub α (upd α H.n L) := sub_upd (h.dom _ (Nat.le_refl _))
  have old : ∀ {k ok Lk}, k ≠ H.n → (H.push o).get k = some ok → ok.live = true → upd α H.n L k = some Lk → H.get k = some ok ∧ α k = some Lk := fun {k ok Lk} hk h1 h2 h3 => by
    rw [Heap.get_push, if_neg hk] at h1
    rw [upd_ne hk] at h3
    exact ⟨h1, h3⟩
  refine ⟨Nat.le_trans h.bs hsz, fun i hi => ?_, fun i oi hi => ?_, fun i j oi oj Li Lj hij hi hri hj hlj hLi hLj => ?_⟩
  · rw [Heap.n_push] at hi; rw [upd_ne (by omega)]; exact h.dom i (by omega)
  · rw [Heap.get_push] at hi
    by_cases e : i = H.n
    · subst e; rw [if_pos rfl] at hi; cases hi; exact hO
    · rw [if_neg e] at hi
      refine (h.obj i oi hi).move hs (upd_ne e) fun L' h1 h2 => ?_
      obtain ⟨L'', h3, h4⟩ := (h.obj i oi hi).lt h2
      rw [h1] at h3; cases h3
      exact hb _ h4 (hu i oi L' hi h2 h1)
  · by_cases ei : i = H.n
    · have ej : j ≠ H.n := fun e => hij (ei.trans e.symm)
      obtain ⟨h1, h2⟩ := old ej hj hlj hLj
      subst ei; rw [upd_self] at hLi; cases hLi
      exact Ne.symm (hu j oj Lj h1 hlj h2)
    · obtain ⟨h1, h2⟩ := old ei hi (AObj.live_of_rw hri) hLi
      by_cases ej : j = H.n
      · subst ej; rw [upd_self] at hLj; cases hLj
        exact hu i oi Li h1 (AObj.live_of_rw hri) h2
      · obtain ⟨h4, h5⟩ := old ej hj hlj hLj
        exact h.sep i j oi oj Li Lj hij h1 hri h4 hlj h2 h5
theorem run_append_zero {t e ty : TypeId} {i : TypeInfo} (ht : P.underlying t = some (.slice e)) (hi : P.info? e = some i) (b : Option Addr) (n c : Nat) (hn : n ≤ c) (b' : Option Addr) (c' : Nat) :
    (Builtin.append_ #[t, t] ty #[.slice b n c, .slice b' 0 c']).run P w = .ok (.slice b n c) w := by
  cases b <;> cases b' <;> simp [Builtin.append_, run_underlying ht, sizeOf, typeInfo, hi, Builtin.lenOf, hn, Builtin.firstCells, loadCells, loadCellsFrom, storeCells]

theorem sim_append (hR : R P base H α w) {ty t t2 : TypeId} {sv xv v : AV} {s x : Value} {H' : Heap} (h : appendA P H t t2 sv xv = some (v, H')) (hs : VR α sv s) (hx : VR α xv x) :
    ∃ u w' α', (Builtin.append_ #[t, t2] ty #[s, x]).run P w = .ok u w' ∧ VR α' v u ∧ R P base H' α' w' ∧ Ext H α w H' α' w' := by
  unfold appendA at h
  split at h
  · rename_i e e2 hu hu2
    cases htt : Nat.beq t t2
    · rw [htt] at h; cases h
    · rw [htt] at h
      have htt := Nat.eq_of_beq_eq_true htt
      subst htt
      have ht := isSliceD_spec hu
      simp only [Bool.not_true, cond_false] at h
      split at h
      · rename_i i hi
        cases hz0 : Nat.beq i.size 0
        · rw [hz0] at h
          simp only [cond_false] at h
          have hsz : 0 < i.size := by
            rcases Nat.eq_zero_or_pos i.size with e | e
            · rw [e] at hz0; cases hz0
            · exact e
          split at h
          · rename_i z hz
            cases hzs : Nat.beq z.cells.size i.size
            · rw [hzs] at h; cases h
            · rw [hzs] at h
              simp only [cond_true] at h
              have hzs := Nat.eq_of_beq_eq_true hzs
              split at h
              · rename_i m new hsrc
                -- what the source comes to
                have src : (m = 0 ∧ ∃ b c, x = .slice b 0 c) ∨ (∃ ad c vs, x = .slice (some ad) m c ∧ F2 (AR α) new vs ∧ vs.length = m * i.size ∧ ∀ j u, vs[j]? = some u → w.cell? (ad.add j) = some u) := by
                  unfold srcA at hsrc
                  split at hsrc
                  · cases hsrc
                    obtain ⟨_, hx⟩ := hx
                    exact .inl ⟨rfl, _, _, hx⟩
                  · rename_i id oo n
                    split at hsrc
                    · rename_i cs hcs
                      cases hsrc
                      obtain ⟨L, vs, e1, q2, q3, q4⟩ := row_laid hR hcs
                      obtain ⟨L', c, hL, _, _, hsl⟩ := hx
                      rw [e1] at hL; cases hL
                      rcases hsl with ⟨hsl, _⟩ | ⟨h0, _, ad, hsl⟩
                      · exact .inr ⟨_, c, vs, hsl, q2, q3, q4⟩
                      · exact .inl ⟨h0, ad, c, hsl⟩
                    · cases hsrc
                  · cases hsrc
                have zero : m = 0 → ∀ b n c, s = .slice b n c → n ≤ c → (Builtin.append_ #[t, t] ty #[s, x]).run P w = .ok s w := by
                  intro hm b n c hs hnc
                  subst hm hs
                  rcases src with ⟨_, b', c', rfl⟩ | ⟨ad, c', vs, rfl, _⟩
                  · exact run_append_zero ht hi b n c hnc b' c'
                  · exact run_append_zero ht hi b n c hnc (some ad) c'
                split at h
                · rename_i n0
                  have hs0 := hs
                  obtain ⟨_, hs'⟩ := hs0
                  subst hs'
                  cases hm0 : Nat.beq m 0
                  · rw [hm0] at h
                    simp only [cond_false] at h
                    have hm : m ≠ 0 := by intro e; rw [e] at hm0; cases hm0
                    cases hc : (Nat.ble (m * i.bytes) 140737488355328 && Nat.ble m 9223372036854775807)
                    · rw [hc] at h; cases h
                    · rw [hc] at h
                      cases h
                      simp only [Bool.and_eq_true, Nat.ble_eq] at hc
                      rcases src with ⟨h0, _⟩ | ⟨ad, c', vs, rfl, f1, f2, f3⟩
                      · exact absurd h0 hm
                      · have hrun := run_append_nil (P := P) w t ty e i z ht hi hz ad m c' vs f2 f3 (by omega) (by omega) (by omega)
                        have hd := hR.dom _ (Nat.le_refl _)
                        have hcap := grownCap_ge w m 0 e
                        have hcm : grownCap w m 0 e ≤ maxLen := grownCap_le_maxLen w m 0 e (by unfold maxLen; omega)
                        refine ⟨_, _, upd α H.n ⟨w.heap.size, 0, grownCap w m 0 e⟩, hrun, ⟨_, _, upd_self _ _ _, hcap, hcm, .inl ⟨by simp, fun _ => rfl⟩⟩, ?_, (Ext.drew H α w).trans (Ext.alloc_obj hd rfl (RowKit.frozen?_alloc_cells _ _ _))⟩
                        refine hR.drew.alloc rfl ⟨_, _, (0, 0), upd_self _ _ _, by simpa using heap_alloc_new w.drew _, ?_, fun j q hq => ?_, fun _ => ⟨hR.bs, rfl⟩, fun _ => ⟨rfl, hcm, i, hi, ?_⟩⟩
                        · simp [f1.length]
                        · obtain ⟨u, g1, g2⟩ := f1.get hq
                          refine ⟨u, ?_, g2.mono (sub_upd hd)⟩
                          rw [Nat.zero_add, Array.getElem?_append_left (by have := (List.getElem?_eq_some_iff.1 g1).1; simpa using this)]
                          simpa using g1
                        · simp only [Array.size_append, List.size_toArray, size_zeroCells, hzs, f2, ← Nat.add_mul]
                          congr 1; omega
                  · rw [hm0] at h
                    cases h
                    exact ⟨_, w, α, zero (Nat.eq_of_beq_eq_true hm0) none 0 0 rfl (Nat.le_refl _), hs, hR, Ext.refl _ _ _⟩
                · rename_i id oo n
                  have hs0 := hs
                  obtain ⟨L, c, hL, hnc, hcm0, hsl⟩ := hs0
                  have hsv : ∃ b, s = .slice b n c := by
                    rcases hsl with ⟨hsl, _⟩ | ⟨h0, _, b, hsl⟩
                    · exact ⟨_, hsl⟩
                    · subst h0; exact ⟨b, hsl⟩
                  cases hm0 : Nat.beq m 0
                  · rw [hm0] at h
                    simp only [cond_false] at h
                    have hm : m ≠ 0 := by intro e; rw [e] at hm0; cases hm0
                    split at h
                    · rename_i T k cs hobj
                      cases hc : (Nat.beq T e && Nat.beq k 2 && Nat.beq oo 0 && Nat.beq cs.length (n * i.size) && Nat.ble ((n + m) * i.bytes) 140737488355328 && Nat.ble (n + m) 9223372036854775807)
                      · rw [hc] at h; cases h
                      · rw [hc] at h
                        cases h
                        simp only [Bool.and_eq_true, Nat.ble_eq, Nat.beq_eq] at hc
                        obtain ⟨⟨⟨⟨⟨rfl, rfl⟩, rfl⟩, hlen⟩, hby⟩, hmx⟩ := hc
                        obtain ⟨L', cur, fz, o1, o2, o3, o4, o5, o6⟩ := hR.obj _ _ hobj
                        rw [hL] at o1; cases o1
                        obtain ⟨hbb, rfl⟩ := o5 (by omega)
                        obtain ⟨hoff, hcapm, info, hinfo, hcur⟩ := o6 rfl
                        rw [hi] at hinfo; cases hinfo
                        have hidn := Heap.get_lt hobj
                        rcases hsl with ⟨rfl, hcap⟩ | ⟨_, h0, _⟩
                        rotate_left
                        · exact absurd rfl h0
                        have hcap := hcap rfl
                        rcases src with ⟨h0, _⟩ | ⟨ad, c', vs, rfl, f1, f2, f3⟩
                        · exact absurd h0 hm
                        have hvs1 : ∀ u ∈ vs, u.oneCell' = true := fun u hu => by
                          obtain ⟨j, hj, hj'⟩ := List.getElem_of_mem hu
                          obtain ⟨q0, hq0⟩ : ∃ q0, new[j]? = some q0 := ⟨_, List.getElem?_eq_getElem (by rw [f1.length]; exact hj)⟩
                          obtain ⟨q', e1, e2⟩ := f1.get hq0
                          rw [List.getElem?_eq_getElem hj] at e1; cases e1; rw [← hj']; exact e2.oneCell
                        -- the old object goes
                        have hRk := hR.kill hidn
                        have hEk := Ext.kill (α := α) (w := w) hidn
                        have hd := hR.dom _ (Nat.le_refl _)
                        simp only [hoff, Nat.zero_add] at o3 o4 ⊢
                        have holds : ∀ j u, (cur.toList.take (n * i.size))[j]? = some u → w.cell? ((⟨L.blk, 0, none⟩ : Addr).add j) = some u := fun j u hj => by
                          have := seg_cells o2 0 (n * i.size) j u (by simpa using hj)
                          simpa using this
                        have hol : (cur.toList.take (n * i.size)).length = n * i.size := by simp; omega
                        have f0 : F2 (AR α) cs (cur.toList.take (n * i.size)) := by
                          have := seg_vals (s := 0) (by simpa using o4) 0 (n * i.size) (by omega) (by simpa using o3)
                          simpa [← hlen] using this
                        by_cases hroom : n + m ≤ c
                        · have hrun := run_append_room (P := P) w t ty T i ht hi L.blk n c cur o2 ad m c' vs f2 f3 hvs1 hroom (by rw [hcur, f2, ← Nat.add_mul, ← hcap]; exact Nat.mul_le_mul_right _ hroom)
                          have hfit : n * i.size + vs.length ≤ cur.size := by rw [hcur, f2, ← Nat.add_mul, ← hcap]; exact Nat.mul_le_mul_right _ hroom
                          refine ⟨_, _, upd α H.n ⟨L.blk, 0, c⟩, hrun, ⟨_, c, upd_self _ _ _, hroom, hcm0, .inl ⟨by simp, fun _ => rfl⟩⟩, ?_⟩
                          have huse : ∀ j oj Lj, (H.set id .dead).get j = some oj → oj.live = true → α j = some Lj → Lj.blk ≠ L.blk := fun j oj Lj hj hlj hLj => by
                            rw [Heap.get_set _ _ _ _ hidn] at hj
                            by_cases e : j = id
                            · subst e; rw [if_pos rfl] at hj; cases hj; cases hlj
                            · rw [if_neg e] at hj
                              exact Ne.symm (hR.sep id j _ oj L Lj (Ne.symm e) hobj rfl hj hlj hL hLj)
                          have hnewrow : F2 (AR α) (cs ++ new) (cur.toList.take (n * i.size) ++ vs) := f0.append f1
                          refine ⟨R.place hRk (L := ⟨L.blk, 0, c⟩) (by simp) (fun k _ hk => setRow_other _ _ _ _ hk) huse ⟨_, _, (0, 0), upd_self _ _ _, setRow_heap _ _ _ _ _ _ o2, ?_, fun j q hq => ?_, fun _ => ⟨hbb, rfl⟩, fun _ => ⟨rfl, hcm0, i, hi, ?_⟩⟩, ?_⟩
                          · have hnl := hnewrow.length; simp only [List.size_toArray, List.length_append] at hnl ⊢; omega
                          · obtain ⟨u, g1, g2⟩ := hnewrow.get hq
                            refine ⟨u, ?_, g2.mono (sub_upd hd)⟩
                            simp only [Nat.zero_add, List.getElem?_toArray]
                            rw [List.getElem?_append_left (by have := (List.getElem?_eq_some_iff.1 g1).1; simpa using this)]
                            exact g1
                          · simp only [List.size_toArray, List.length_append, List.length_take, List.length_drop, Array.length_toList]
                            rw [hcap, ← hcur]; omega
                          · have sets : ∀ (f : AObj → Bool) k, f (.cells T 2 cs) = true → (∀ k, blkset f (H.set id .dead) α k → blkset f H α k) → blkset f ((H.set id .dead).push (.cells T 2 (cs ++ new))) (upd α H.n ⟨L.blk, 0, c⟩) k → blkset f H α k := by
                              intro f k hf hE hr
                              obtain ⟨j, oj, Lj, h1, h2, h3, h4⟩ := hr
                              rw [Heap.get_push] at h1
                              by_cases e : j = (H.set id .dead).n
                              · subst e
                                simp only [Heap.n_set] at h3
                                rw [upd_self] at h3; cases h3
                                exact ⟨id, _, L, hobj, hf, hL, h4⟩
                              · rw [if_neg e] at h1
                                simp only [Heap.n_set] at e
                                rw [upd_ne e] at h3
                                exact hE k ⟨j, oj, Lj, h1, h2, h3, h4⟩
                            refine ⟨rfl, rfl, rfl, by simp, by simp, sub_upd hd, fun _ hi => upd_ne (Nat.ne_of_lt hi), fun k hk hnr => setRow_other _ _ _ _ ?_, fun k _ hr => sets _ k rfl (fun _ h => kill_set _ rfl (Heap.get_lt hobj) h) hr,
                              fun k _ hr => sets _ k rfl (fun _ h => kill_set _ rfl (Heap.get_lt hobj) h) hr, fun j hj => dead_push (dead_kill (Heap.get_lt hobj) hj), frozen_row⟩
                            rintro rfl; exact hnr ⟨id, _, L, hobj, rfl, hL, rfl⟩
                        · have hrun := run_append_grow (P := P) w t ty T i z ht hi hz ⟨L.blk, 0, none⟩ n c (cur.toList.take (n * i.size)) hol holds ad m c' vs f2 f3 (by omega) (by omega) (growslice_fits (by omega) hby)
                          have hge := grownCap_ge w (n + m) c T
                          have hcm : grownCap w (n + m) c T ≤ maxLen := grownCap_le_maxLen w (n + m) c T (by unfold maxLen; omega)
                          have hnewrow : F2 (AR α) (cs ++ new) (cur.toList.take (n * i.size) ++ vs) := f0.append f1
                          refine ⟨_, _, upd α H.n ⟨w.heap.size, 0, grownCap w (n + m) c T⟩, hrun, ⟨_, _, upd_self _ _ _, hge, hcm, .inl ⟨by simp, fun _ => rfl⟩⟩, ?_, (hEk.trans (Ext.drew _ α w)).trans (Ext.alloc_obj (H := H.set id .dead) hd rfl (RowKit.frozen?_alloc_cells _ _ _))⟩
                          refine hRk.drew.alloc rfl ⟨_, _, (0, 0), upd_self _ _ _, by simpa using heap_alloc_new w.drew _, ?_, fun j q hq => ?_, fun _ => ⟨hR.bs, rfl⟩, fun _ => ⟨rfl, hcm, i, hi, ?_⟩⟩
                          · have := hnewrow.length
                            simp at this ⊢; omega
                          · obtain ⟨u, g1, g2⟩ := hnewrow.get hq
                            refine ⟨u, ?_, g2.mono (sub_upd hd)⟩
                            have hjl := (List.getElem?_eq_some_iff.1 g1).1
                            rw [Nat.zero_add, Array.getElem?_append_left (by simpa using hjl)]
                            simpa using g1
                          · simp only [Array.size_append, List.size_toArray, List.length_append, size_zeroCells, hzs, hol, f2, ← Nat.add_mul]
                            congr 1; omega
                    · cases h
                  · rw [hm0] at h
                    cases h
                    obtain ⟨b, hsv⟩ := hsv
                    exact ⟨_, w, α, zero (Nat.eq_of_beq_eq_true hm0) b n c hsv hnc, hs, hR, Ext.refl _ _ _⟩
                · cases h
              · cases h
          · cases h
        · rw [hz0] at h; cases h
      · cases h
  · cases h

/-! ### len, min, max -/
theorem lenA_sim (hR : R P base H α w) {t ty : TypeId} {av : AV} {v : Value} {n : Nat} (h : lenA P H t av = some n) (hv : VR α av v) (ts : Array TypeId) (vs : Array Value) (ht : ts[0]? = some t) (hvs : vs[0]? = some v) :
    (Builtin.len_ ts ty vs).run P w = .ok (.int .i64 n) w := by
  unfold lenA at h
  split at h
  · rename_i s
    split at h
    · rename_i hu
      cases h
      obtain ⟨b, rfl, rfl⟩ := hv
      simp [Builtin.len_, ht, hvs, run_underlying hu, goInt]
    · cases h
  · rename_i p m
    split at h
    · rename_i e hu
      cases h
      have : ∃ ad c, v = .slice ad n c := by
        cases p with
        | none => obtain ⟨rfl, rfl⟩ := hv; exact ⟨_, _, rfl⟩
        | some p =>
          obtain ⟨L, c, _, _, _, hs⟩ := hv
          rcases hs with ⟨hs, _⟩ | ⟨rfl, _, ad, hs⟩
          · exact ⟨_, _, hs⟩
          · exact ⟨_, _, hs⟩
      obtain ⟨ad, c, rfl⟩ := this
      simp [Builtin.len_, ht, hvs, run_underlying hu, goInt]
    · cases h
  · rename_i id
    split at h
    · rename_i kt et es hu hes
      cases h
      obtain ⟨L, hL, rfl⟩ := hv
      obtain ⟨L', c, clk, e1, e2, _, e4⟩ := hR.obj _ _ hes
      rw [hL] at e1; cases e1
      have := e4.length
      simp [Builtin.len_, ht, hvs, run_underlying hu, run_getMap e2, goInt]
      rw [this]; simp
    · cases h
  · cases h

theorem foldI_sim {f : Int → Int → Int} {g : Value → Value → Sem Value} (hg : ∀ k x y, g (.int k x) (.int k y) = pure (.int k (f x y))) {l : List AV} {b : AT} {vs : List Value} (h : foldI f l = some b) (hv : F2 (VR α) l vs) :
    ∃ u, (match vs with
      | [] => stuck "x"
      | x :: rest => rest.foldlM g x : Sem Value).run P w = .ok u w ∧ AR α b u := by
  unfold foldI at h
  split at h
  · rename_i k x k' y
    split at h
    · rename_i e; cases h; subst e
      cases hv with
      | cons h1 h2 => cases h2 with
        | cons h3 h4 =>
          cases h4
          have e1 : _ = Value.int k x := h1
          have e2 : _ = Value.int k y := h3
          subst e1 e2
          exact ⟨_, by simp [hg], rfl⟩
    · cases h
  · rename_i k x k' y k'' z
    split at h
    · rename_i e; cases h
      obtain ⟨rfl, rfl⟩ := e
      cases hv with
      | cons h1 h2 => cases h2 with
        | cons h3 h4 => cases h4 with
          | cons h5 h6 =>
            cases h6
            have e1 : _ = Value.int k x := h1
            have e2 : _ = Value.int k y := h3
            have e3 : _ = Value.int k z := h5
            subst e1 e2 e3
            exact ⟨_, by simp [hg], rfl⟩
    · cases h
  · cases h

theorem sim_builtin (hR : R P base H α w) {b : Builtin} {ts : Array TypeId} {vs : List AV} {xs : Array Value} {v : AV} {H' : Heap} {ty : TypeId} {cs : Array Bool} (h : builtinA P H b ts.toList vs = some (v, H')) (hv : F2 (VR α) vs xs.toList) :
    Res P base H α w ((builtin b ts ty cs xs).run P w) v H' := by
  generalize hts : ts.toList = tl at h
  unfold builtinA at h
  split at h
  · rename_i t tr x xr
    split at h
    · rename_i n hn
      cases h
      have h0 : ts[0]? = some t := by rw [← Array.getElem?_toList, hts]; rfl
      cases hx : xs.toList with
      | nil => rw [hx] at hv; cases hv
      | cons y yr =>
        rw [hx] at hv
        cases hv with
        | cons h1 h2 =>
          have h0' : xs[0]? = some y := by rw [← Array.getElem?_toList, hx]; rfl
          refine Res.pure hR (u := .int .i64 n) ?_ rfl
          simp only [builtin, Sem.run_bind, lenA_sim hR hn h1 ts xs h0 h0', Result.andThen_ok, Sem.run_pure]
    · cases h
  · rename_i t t2 s x
    have e1 : ts = #[t, t2] := by rw [← Array.toArray_toList (xs := ts), hts]
    cases hx : xs.toList with
    | nil => rw [hx] at hv; cases hv
    | cons y yr =>
      rw [hx] at hv
      cases hv with
      | cons h1 h2 => cases h2 with
        | cons h3 h4 =>
          cases h4
          rename_i y2
          have e2 : xs = #[y, y2] := by rw [← Array.toArray_toList (xs := xs), hx]
          obtain ⟨u, w', α', g1, g2, g3, g4⟩ := sim_append (ty := ty) hR h h1 h3
          refine ⟨_, u, w', α', ?_, .inl rfl, g2, g3, g4⟩
          subst e1
          rw [e2]
          simp only [builtin, Sem.run_bind, g1, Result.andThen_ok, Sem.run_pure]
  · split at h
    · rename_i q hq
      cases h
      obtain ⟨u, g1, g2⟩ := foldI_sim (P := P) (w := w) (g := Builtin.max2) (fun _ _ _ => rfl) hq hv
      refine Res.pure hR (u := u) ?_ g2
      have : (Builtin.max_ ts ty xs).run P w = .ok u w := by
        rw [← g1]
        unfold Builtin.max_
        cases hx : xs.toList with
        | nil => rw [hx] at g1; cases g1
        | cons _ _ => rfl
      simp only [builtin, Sem.run_bind, this, Result.andThen_ok, Sem.run_pure]
    · cases h
  · split at h
    · rename_i q hq
      cases h
      obtain ⟨u, g1, g2⟩ := foldI_sim (P := P) (w := w) (g := Builtin.min2) (fun _ _ _ => rfl) hq hv
      refine Res.pure hR (u := u) ?_ g2
      have : (Builtin.min_ ts ty xs).run P w = .ok u w := by
        rw [← g1]
        unfold Builtin.min_
        cases hx : xs.toList with
        | nil => rw [hx] at g1; cases g1
        | cons _ _ => rfl
      simp only [builtin, Sem.run_bind, this, Result.andThen_ok, Sem.run_pure]
    · cases h
  · cases h

/-! ### calls -/
/-- A Go function with a body. -/
def FnOk (P : Program) (f : FuncId) : Prop := ∃ fn, P.funcs[f]? = some fn ∧ (fn.name == "runtime.NumGoroutine") = false ∧ fn.body.isNone = false

theorem sim_call (hE : EnvR α lk a) {o : Oper} {c : Call} (ho : o.op = .call c) {f : Nat} {args : List AV} (h : op_call c P eqs lk H = some (.call f args)) (hf : FnOk P f) :
    ∃ xs, (execOp a.eval o).run P w = .ok (.enter f xs) w ∧ F2 (VR α) args xs.toList := by
  unfold op_call at h
  split at h
  · split at h
    · split at h <;> cases h
    · cases h
  · rename_i g hc
    split at h
    · rename_i f' cs vs hg hvs
      cases h
      obtain ⟨arr, e1, e2⟩ := rho_sim hE hg
      have e3 := rhos_sim hE hvs
      obtain ⟨fn, q1, q2, q3⟩ := hf
      refine ⟨(c.args.map a.eval) ++ arr, ?_, ?_⟩
      · simp only [execOp, ho, resolve, hc, e1, Deferred.ofValue, Sem.run_bind, Sem.run_pure, Result.andThen_ok, invoke, callFunc, run_program, q1, q2, q3]
        simp
      · rw [Array.toList_append, Array.toList_map]
        refine e3.append ?_
        clear e1 hg
        generalize arr.toList = l at e2 ⊢
        induction e2 with
        | nil => exact .nil
        | cons h1 _ ih => exact .cons h1 ih
    · cases h
  · cases h

theorem sim_call_val (hR : R P base H α w) (hE : EnvR α lk a) {o : Oper} {c : Call} (ho : o.op = .call c) {v : AV} {H' : Heap} (h : op_call c P eqs lk H = some (.val v H')) :
    Res P base H α w ((execOp a.eval o).run P w) v H' := by
  unfold op_call at h
  split at h
  · rename_i b hc
    split at h
    · rename_i vs hvs
      split at h
      · rename_i v' H2 hb
        cases h
        have e3 := rhos_sim hE hvs
        have := sim_builtin (ty := o.type) (cs := c.args.map fun | .const _ => true | _ => false) hR hb (xs := c.args.map a.eval) (by rw [Array.toList_map]; exact e3)
        simp only [execOp, ho, resolve, hc, Sem.run_bind, Sem.run_pure, Result.andThen_ok, invoke]
        exact this
      · cases h
    · cases h
  · split at h <;> cases h
  · cases h

/-- EVERY OPERATION THAT IS NO CALL. -/
theorem op_sim (hQ : EqsOk P eqs) (hR : R P base H α w) (hE : EnvR α lk a) {o : Oper} {v : AV} {H' : Heap} (h : opA o.op P eqs lk H = some (.val v H')) : Res P base H α w ((execOp a.eval o).run P w) v H' := by
  cases ho : o.op with
  | move x => rw [ho] at h; exact sim_move (lk := lk) (eqs := eqs) hR hE (.inl ho) h
  | assign x => rw [ho] at h; exact sim_move (lk := lk) (eqs := eqs) hR hE (.inr ho) h
  | pick c x y => rw [ho] at h; exact sim_pick (lk := lk) (eqs := eqs) hR hE ho h
  | alloc T => rw [ho] at h; exact sim_alloc (lk := lk) (eqs := eqs) hR ho h
  | box T x => rw [ho] at h; exact sim_box (lk := lk) (eqs := eqs) hR hE ho h
  | build T ps => rw [ho] at h; exact sim_build (lk := lk) (eqs := eqs) hR hE ho h
  | buildSlice T n ps => rw [ho] at h; exact sim_buildSlice (lk := lk) (eqs := eqs) hR hE ho h
  | insert t m k x => rw [ho] at h; exact sim_mapUpdate (lk := lk) (eqs := eqs) hR hE (.inr ho) h
  | load T x => rw [ho] at h; exact sim_load (lk := lk) (eqs := eqs) hR hE ho h
  | store T x y => rw [ho] at h; exact sim_store (lk := lk) (eqs := eqs) hR hE ho h
  | nilCheck x => rw [ho] at h; exact sim_nilCheck (lk := lk) (eqs := eqs) hR hE ho h
  | binOp op t x y yt => rw [ho] at h; exact sim_binOp (lk := lk) (eqs := eqs) hQ hR hE ho h
  | unOp op t x => rw [ho] at h; exact sim_unOp (lk := lk) (eqs := eqs) hR hE ho h
  | convert s d x => rw [ho] at h; exact sim_convert (lk := lk) (eqs := eqs) hR hE ho h
  | makeFunc fn f c => rw [ho] at h; exact sim_makeFunc (lk := lk) (eqs := eqs) hR hE ho h
  | makeMap T r => rw [ho] at h; exact sim_makeMap (lk := lk) (eqs := eqs) hR ho h
  | makeSlice t l c => rw [ho] at h; exact sim_makeSlice (lk := lk) (eqs := eqs) hR hE ho h
  | slice t x lo hi mx => rw [ho] at h; exact sim_slice (lk := lk) (eqs := eqs) hR hE ho h
  | fieldAddr s x f => rw [ho] at h; exact sim_fieldAddr (lk := lk) (eqs := eqs) hR hE ho h
  | field T x f => rw [ho] at h; exact sim_field (lk := lk) (eqs := eqs) hR hE ho h
  | indexAddr t x ix => rw [ho] at h; exact sim_indexAddr (lk := lk) (eqs := eqs) hR hE ho h
  | index t x ix => rw [ho] at h; exact sim_index (lk := lk) (eqs := eqs) hR hE ho h
  | lookup t x ix ok => rw [ho] at h; exact sim_lookup (lk := lk) (eqs := eqs) hR hE ho h
  | mapUpdate t m k x => rw [ho] at h; exact sim_mapUpdate (lk := lk) (eqs := eqs) hR hE (.inl ho) h
  | extract x i => rw [ho] at h; exact sim_extract (lk := lk) (eqs := eqs) hR hE ho h
  | call c => rw [ho] at h; exact sim_call_val (lk := lk) (eqs := eqs) hR hE ho h
  | ready _ => rw [ho] at h; cases h
  | waits _ => rw [ho] at h; cases h
  | sliceToArrayPointer _ _ => rw [ho] at h; cases h
  | makeInterface _ _ => rw [ho] at h; cases h
  | makeChan _ _ => rw [ho] at h; cases h
  | mapEntry _ _ _ => rw [ho] at h; cases h
  | entryStore _ _ _ _ => rw [ho] at h; cases h
  | range _ _ => rw [ho] at h; cases h
  | next _ _ => rw [ho] at h; cases h
  | entry _ => rw [ho] at h; cases h
  | typeAssert _ _ _ _ => rw [ho] at h; cases h
  | go _ => rw [ho] at h; cases h
  | defer _ => rw [ho] at h; cases h
  | panic _ => rw [ho] at h; cases h
  | send _ _ => rw [ho] at h; cases h
  | recv _ _ _ => rw [ho] at h; cases h
  | select _ _ => rw [ho] at h; cases h
end
end Go.Ea
