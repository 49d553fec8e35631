/-
  THE ENGINE, part 23: rows that are only read; the arguments of a law laid in the abstract heap; from a contract to what a row asks. Over any program. Written in this session.
-/
import Derived.Test.YtceakkomleaibaaEe3
import Derived.ChangeSlices
import Derived.ProofKit
import Derived.OpenShut
import Derived.Carry
namespace Go.Ea
open Go.ChangeShapes Go.WideShapes

/-! ### rows that are read -/
/-- xs lies at p, z cells each. -/
def RowR {β : Type} (H : Heap) (f : β → List AT) (z : Nat) (xs : List β) (p : Option (Nat × Nat)) : Prop :=
  (p = none → xs = []) ∧ ∀ id o, p = some (id, o) → xs = [] ∨ ∃ T k cs, H.get id = some (.cells T k cs) ∧ o + xs.length * z ≤ cs.length ∧ (cs.drop o).take (xs.length * z) = xs.flatMap f
section
variable {β : Type} {H H' : Heap} {f : β → List AT} {z : Nat} {xs : List β} {p : Option (Nat × Nat)}
theorem RowR.kp (h : RowR H f z xs p) (hk : Kp [] H H') : RowR H' f z xs p :=
  ⟨h.1, fun id o hp => (h.2 id o hp).imp (fun x => x) fun ⟨T, k, cs, h1, h2⟩ => ⟨T, k, cs, hk.get h1 rfl, h2⟩⟩
theorem RowR.nil : RowR H f z [] p := ⟨fun _ => rfl, fun _ _ _ => .inl rfl⟩
/-- One element. -/
theorem RowR.at (h : RowR H f z xs p) (hf : ∀ x, (f x).length = z) {i : Nat} {x : β} (hx : xs[i]? = some x) : ∃ id o T k cs, p = some (id, o) ∧ H.get id = some (.cells T k cs) ∧ o + i * z + z ≤ cs.length ∧ (cs.drop (o + i * z)).take z = f x := by
  have hi := (List.getElem?_eq_some_iff.1 hx).1
  cases hp : p with
  | none => have := h.1 hp; subst this; simp at hx
  | some q =>
    obtain ⟨id, o⟩ := q
    rcases h.2 id o hp with h0 | ⟨T, k, cs, h1, h2, h3⟩
    · subst h0; simp at hx
    · obtain ⟨g1, g2⟩ := flat_part hf hx
      have hm : i * z + z ≤ xs.length * z := by rw [← Nat.succ_mul]; exact Nat.mul_le_mul_right _ hi
      refine ⟨id, o, T, k, cs, rfl, h1, by omega, ?_⟩
      rw [← g1, ← h3, List.drop_take, List.drop_drop, List.take_take, Nat.min_eq_left (by omega)]
theorem take_cell {cs l : List AT} {o z j : Nat} (h : (cs.drop o).take z = l) (hj : j < z) : cs[o + j]? = l[j]? := by
  rw [← h, List.getElem?_take_of_lt hj, List.getElem?_drop]
theorem part_cell {P : Program} {T : TypeId} {d : TypeDesc} {cs l : List AT} {o z n : Nat} {a : AT} (j : Nat) (h : (cs.drop o).take z = l) (hj : j < z) (ha : l[j]? = some a) (hu : P.underlying T = some d) (hd : isAggD d = false) (hz : sizeO P T = some n) : partA P T cs (o + j) = some (.at a) :=
  part_at hu hd hz (by rw [take_cell h hj, ha])
theorem part_all {P : Program} {T : TypeId} {d : TypeDesc} {cs l : List AT} {o z : Nat} (h : (cs.drop o).take z = l) (hl : o + z ≤ cs.length) (hu : P.underlying T = some d) (hd : isAggD d = true) (hz : sizeO P T = some z) : partA P T cs o = some (.agg l) := by
  rw [part_agg hu hd hz hl, h]
theorem part_one {P : Program} {T : TypeId} {d : TypeDesc} {cs : List AT} {o n : Nat} {a : AT} (h : (cs.drop o).take 1 = [a]) (hu : P.underlying T = some d) (hd : isAggD d = false) (hz : sizeO P T = some n) : partA P T cs o = some (.at a) :=
  part_at hu hd hz (by have := take_cell (j := 0) h (by omega); simpa using this)
theorem RowA.r {G : Heap} {lo : Nat} {T : TypeId} {a : AT} (h : RowA G lo T xs.length (xs.flatMap f) a) (hz : ∀ x, (f x).length = z) : ∃ p, a = .slice p xs.length ∧ RowR G f z xs p := by
  rcases h with ⟨h1, _, h3⟩ | ⟨id, _, h2, h3⟩
  · have : xs = [] := List.length_eq_zero_iff.1 h1
    subst this
    exact ⟨none, h3, .nil⟩
  · refine ⟨some (id, 0), h2, fun h => (by cases h), fun id' o' hp => .inr ?_⟩
    cases hp
    refine ⟨T, 2, _, h3, by rw [flat_len hz]; omega, ?_⟩
    rw [List.drop_zero, ← flat_len hz xs, List.take_length]
end

/-! ### arguments -/
/-- Nothing of it may be written. -/
def RO (H : Heap) : Prop := ∀ i o, H.get i = some o → o.rw = false
theorem RO.empty : RO Heap.empty := fun i o h => by rw [Heap.get_ge _ (Nat.zero_le i)] at h; cases h
section
variable {P : Program} {base : Nat} {H : Heap} {α : Al} {w : World}
theorem R.addRO {o : AObj} {L : Loc} (h : R P base H α w) (hro : RO H) (ho : o.rw = false) (hO : OR P base (upd α H.n L) w H.n o) : R P base (H.push o) (upd α H.n L) w ∧ RO (H.push o) := by
  have hs : Sub α (upd α H.n L) := sub_upd (h.dom _ (Nat.le_refl _))
  have hr : RO (H.push o) := fun i oi hi => by
    rw [Heap.get_push] at hi
    by_cases e : i = H.n
    · rw [if_pos e] at hi; cases hi; exact ho
    · rw [if_neg e] at hi; exact hro i oi hi
  refine ⟨⟨h.bs, fun i hi => ?_, fun i oi hi => ?_, fun i j oi oj Li Lj _ hi hri => ?_⟩, hr⟩
  · rw [Heap.n_push] at hi; rw [upd_ne (by omega)]; exact h.dom i (by omega)
  · rw [Heap.get_push] at hi
    by_cases e : i = H.n
    · subst e; rw [if_pos rfl] at hi; cases hi; exact hO
    · rw [if_neg e] at hi
      exact (h.obj i oi hi).move hs (upd_ne e) fun _ _ _ => rfl
  · rw [hr i oi hi] at hri; cases hri
theorem noRw {H : Heap} (h : RO H) (α : Al) (k : Nat) : ¬ rwset H α k := by
  rintro ⟨i, o, L, h1, h2, _⟩
  rw [h i o h1] at h2; cases h2

theorem cell_some {w : World} {a : Addr} {v : Value} (h : w.cell? a = some v) : ∃ c T fz, w.heap[a.block]? = some (.cells c T fz) ∧ a = ⟨a.block, a.off, none⟩ ∧ c[a.off]? = some v := by
  unfold World.cell? at h
  split at h
  · rename_i c T fz hc
    split at h
    · cases h
    · rename_i hs
      refine ⟨c, T, fz, hc, ?_, h⟩
      cases a with | mk b o s => cases s with
        | none => rfl
        | some x => exact absurd rfl hs
  · cases h
theorem add_off {b o i : Nat} : (⟨b, o, none⟩ : Addr).add i = ⟨b, o + i, none⟩ := by
  unfold Addr.add
  split
  · subst_vars; rfl
  · rfl
/-- A slice of integers. -/
theorem open_intsA {Hh : Type} {enc : TypeId × Value → Hh} {sp : Nat → Bool} {t e : TypeId} {k : IntKind} {v : Value} {d : DataW Hh} {ps : List MemPlace} {r : Reach} {b0 : Nat} (hR : R P base H α w) (hro : RO H) (ht : P.underlying t = some (.slice e)) (he : P.underlying e = some (.int k)) (hc : P.cellsOf e = 1)
    (hval : Value.okWide P w r b0 t v) (hd : DataW.Trod enc P w 0 sp true t v d ps) :
    ∃ H' α' xs q, R P base H' α' w ∧ RO H' ∧ Sub α α' ∧ Kp [] H H' ∧ VR α' (at' (.slice q xs.length)) v ∧ RowR H' (fun x => [AT.int k x]) 1 xs q ∧ ∀ x ∈ xs, (Lit.int k x).wf = true := by
  obtain ⟨a0, len, cap, rfl⟩ := okWide_slice ht hval
  obtain ⟨fuel, hf⟩ := hd
  have hf : DataW.trod enc P w 0 sp true fuel t [.slice a0 len cap] = some (d, ps) := hf
  rcases Go.ChangeShapes.open_ints ht he hc hf with ⟨h1, _⟩ | ⟨a, l1, c1, zs, h1, _, hl, hm, hz, _, hcell, hwf⟩
  · cases h1
    exact ⟨H, α, [], none, hR, hro, Sub.refl _, Kp.refl, ⟨rfl, rfl⟩, .nil, by simp⟩
  · cases h1
    have hzl : len ≤ zs.length := by rw [hz]; split <;> omega
    by_cases h0 : len = 0
    · subst h0
      obtain ⟨g1, g2⟩ := hR.addRO (o := .dead) (L := ⟨0, 0, 0⟩) hro rfl trivial
      refine ⟨_, _, [], some (H.n, 1), g1, g2, sub_upd (hR.dom _ (Nat.le_refl _)), Kp.push Kp.refl, ?_, .nil, by simp⟩
      exact ⟨⟨0, 0, 0⟩, cap, upd_self _ _ _, Nat.zero_le _, hm, .inr ⟨rfl, by simp, _, rfl⟩⟩
    · have hc0 := hcell 0 (by omega)
      have e0 : a.add 0 = a := rfl
      rw [e0] at hc0
      obtain ⟨c, T, fz, q1, q2, q3⟩ := cell_some hc0
      have each : ∀ j, j < zs.length → c[a.off + j]? = some (.int k (zs.getD j 0)) := by
        intro j hj
        have := hcell j hj
        rw [q2, add_off] at this
        unfold World.cell? at this
        simp only [q1] at this
        exact this
      have hxl : (zs.take len).length = len := by rw [List.length_take]; omega
      have hmap : (zs.take len).flatMap (fun x => [AT.int k x]) = (zs.take len).map (AT.int k) := by
        generalize zs.take len = l
        induction l with
        | nil => rfl
        | cons a l ih => simp [ih]
      have hO : OR P base (upd α H.n ⟨a.block, a.off, cap⟩) w H.n (.cells T 0 ((zs.take len).map (AT.int k))) := by
        refine ⟨⟨a.block, a.off, cap⟩, c, fz, upd_self _ _ _, q1, ?_, fun j x hj => ?_, fun h => absurd rfl h, fun h => by cases h⟩
        · have := each (len - 1) (by omega)
          have := (Array.getElem?_eq_some_iff.1 this).1
          simp only [List.length_map, hxl]; omega
        · rw [List.getElem?_map] at hj
          cases hg : (zs.take len)[j]? with
          | none => rw [hg] at hj; cases hj
          | some y =>
            rw [hg] at hj; cases hj
            have hjl := (List.getElem?_eq_some_iff.1 hg).1
            rw [hxl] at hjl
            rw [List.getElem?_take_of_lt hjl] at hg
            refine ⟨_, each j (by omega), ?_⟩
            rw [List.getD_eq_getElem?_getD, hg]; rfl
      obtain ⟨g1, g2⟩ := hR.addRO hro rfl hO
      refine ⟨_, _, zs.take len, some (H.n, 0), g1, g2, sub_upd (hR.dom _ (Nat.le_refl _)), Kp.push Kp.refl, ?_, ⟨fun h => (by cases h), fun id o hp => .inr ?_⟩, fun x hx => hwf x (List.mem_of_mem_take hx)⟩
      · refine ⟨⟨a.block, a.off, cap⟩, cap, upd_self _ _ _, by rw [hxl]; exact hl, hm, .inl ⟨?_, fun _ => rfl⟩⟩
        rw [hxl, show (some a : Option Addr) = some ⟨a.block, a.off, none⟩ from congrArg some q2]; rfl
      · cases hp
        refine ⟨T, 0, _, Heap.push_new, by simp, ?_⟩
        rw [List.drop_zero, hmap]
        have : ((zs.take len).map (AT.int k)).length = (zs.take len).length * 1 := by simp
        rw [← this, List.take_length]
theorem open_intA {Hh : Type} {enc : TypeId × Value → Hh} {sp : Nat → Bool} {t : TypeId} {k : IntKind} {v : Value} {d : DataW Hh} {ps : List MemPlace} {r : Reach} {b0 : Nat} (α : Al) (ht : P.underlying t = some (.int k))
    (hval : Value.okWide P w r b0 t v) (hd : DataW.Trod enc P w 0 sp true t v d ps) : ∃ n, VR α (at' (.int k n)) v ∧ (Lit.int k n).wf = true := by
  obtain ⟨n, h1, _, _, h2⟩ := open_int ht hval hd
  exact ⟨n, h1, h2⟩
theorem open_strA {t : TypeId} {v : Value} {r : Reach} {b0 : Nat} (α : Al) (ht : P.underlying t = some .string) (hval : Value.okWide P w r b0 t v) : ∃ s, VR α (at' (.str s)) v := by
  obtain ⟨s, rfl⟩ := okWide_string ht hval
  exact ⟨_, s, rfl, rfl⟩
theorem open_boolA {t : TypeId} {v : Value} {r : Reach} {b0 : Nat} (α : Al) (ht : P.underlying t = some .bool) (hval : Value.okWide P w r b0 t v) : ∃ b, VR α (at' (.bool b)) v := by
  obtain ⟨b, rfl⟩ := okWide_bool ht hval
  exact ⟨b, rfl⟩
/-- A law that is true. -/
theorem law_true {f : FuncId} {args : List AV} {xs : Array Value} (hR : R P w.heap.size H α w) (hro : RO H) (ha : F2 (VR α) args xs.toList) {Q : Heap → Prop} (h : Sim P f args H fun u G => u = at' (.bool true) ∧ Q G) :
    Calls P f xs w fun e w' => e = .returned (.bool true) ∧ RowKit.Grown w w' ∧ RowKit.Below w.heap.size w w' := by
  refine (h w.heap.size α w xs hR ha).mono fun e w' ⟨v, v', H2, α', h1, ⟨h2, _⟩, h3, _, h5⟩ => ?_
  subst h2
  simp only [VR, V1, AR] at h3
  subst h3
  exact ⟨h1, h5.grown (noRw hro α), ⟨h5.os, h5.tape, h5.output, h5.size, fun k hk => h5.blk k hk (noRw hro α k)⟩⟩
end
end Go.Ea
