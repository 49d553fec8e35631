/-
  CONTRACTS: Run, SameOutcome, Args, Fuel (printed by wip/tools/walk.py from wip/specs/intF.py). Written in this session.
-/
import Derived.Test.YtnhobbjbgljpnaaIg
namespace Go.Proofs.Ytnhobbjbgljpnaa
open Go.Ea
set_option maxRecDepth 100000
set_option linter.unusedVariables false
set_option linter.unusedSimpArgs false

section
variable {P : Program} {eqs : Eqs} {lk : Env}
theorem mkSl_at {t e : TypeId} {l c : Operand} {i : TypeInfo} {n : Nat} {Hb : Heap} (ht : isSliceD (P.underlying t) = some e) (hl : rho lk l = some (at' (.int .i64 (n : Nat)))) (hc : rho lk c = some (at' (.int .i64 (n : Nat)))) (hi : P.info? e = some i) (hz : zeroOf P e = some (.at (.int .i64 0))) (hs : i.size = 1) (hb8 : i.bytes = 8) (hn : n ≤ 1000) :
    opA (.makeSlice t l c) P eqs lk Hb = some (.val (at' (.slice (some (Hb.n, 0)) n)) (Hb.push (.cells e 2 (numsC (List.replicate n 0))))) := by
  show op_makeSlice t l c P eqs lk Hb = _
  unfold op_makeSlice
  rw [ht, hl, hc]
  simp only [hi, hz, intA]
  rw [if_pos ⟨trivial, by omega, by rw [hb8]; omega, by omega, by omega, hs.symm⟩, Int.toNat_natCast, hs, Nat.mul_one]
  have : (List.range n).map (fun j => (([AT.int .i64 0] : List AT)[j % ([AT.int .i64 0] : List AT).length]?).getD .nilIf) = numsC (List.replicate n 0) := by
    refine List.ext_getElem (by simp [numsC]) fun j h1 h2 => ?_
    simp [numsC, Nat.mod_one]
  show some (OpR.val _ (Hb.push (.cells e 2 ((List.range n).map (fun j => (([AT.int .i64 0] : List AT)[j % ([AT.int .i64 0] : List AT).length]?).getD .nilIf))))) = _
  rw [this]
end
theorem ArrE.new {H G : Heap} {mc i : Nat} {pl : List UInt8 → Option Nat} {A : Arrs} {s : List UInt8} {l : List Int} {es : Ents} (h : ArrE H mc pl A) (hes : G.get mc = some (.map (ents es))) (hmc : mc < H.n) (hlk : ∀ s, lkM es s = (pl s).map fun i => A1.at (.slice (some (i, 0)) (A s).length)) (hk : Kp [mc] H G) (hpl : ∀ t j, pl t = some j → j ≠ mc) (hr : G.get i = some (.cells 2 2 (numsC l))) (hi : H.n ≤ i) :
    ArrE (G.set mc (.map (ents (upM es s (.at (.slice (some (i, 0)) l.length)))))) mc (upd1 pl s (some i)) (upd1 A s l) := by
  obtain ⟨_, h3, h4, h5⟩ := h
  have hm := Heap.get_lt hes
  refine ⟨⟨_, Heap.set_newl hm, fun t => ?_⟩, fun t j ht => ?_, fun t ht => ?_, fun t u j ht hu => ?_⟩
  · rw [lk_up]
    unfold upd1
    by_cases e : t = s
    · rw [if_pos e, if_pos e, if_pos e]; rfl
    · rw [if_neg e, if_neg e, if_neg e]; exact hlk t
  · unfold upd1 at ht ⊢
    by_cases e : t = s
    · rw [if_pos e] at ht ⊢
      cases ht
      exact Heap.set_old hr (by omega) hm
    · rw [if_neg e] at ht ⊢
      exact Heap.set_old (hk.g _ _ (h3 t j ht) rfl (by simp; exact hpl t j ht)) (hpl t j ht) hm
  · unfold upd1 at ht ⊢
    by_cases e : t = s
    · rw [if_pos e] at ht; cases ht
    · rw [if_neg e] at ht ⊢; exact h4 t ht
  · unfold upd1 at ht hu
    by_cases e : t = s
    · by_cases e2 : u = s
      · rw [e, e2]
      · rw [if_pos e] at ht; rw [if_neg e2] at hu
        cases ht
        have := Heap.get_lt (h3 u _ hu); omega
    · by_cases e2 : u = s
      · rw [if_neg e] at ht; rw [if_pos e2] at hu
        cases hu
        have := Heap.get_lt (h3 t _ ht); omega
      · rw [if_neg e] at ht; rw [if_neg e2] at hu
        exact h5 t u j ht hu
theorem ArrE.kp1 {H G : Heap} {mc : Nat} {pl : List UInt8 → Option Nat} {A : Arrs} (h : ArrE H mc pl A) {own : List Nat} (hk : Kp own H G) (hm : mc ∉ own) (ho : ∀ s i, pl s = some i → i ∉ own) : ArrE G mc pl A := h.kp hk hm ho
theorem RowA.lo {G : Heap} {lo lo' : Nat} {T : TypeId} {n : Nat} {cs : List AT} {a : AT} (h : RowA G lo T n cs a) (ha : ∀ d ∈ rid a, lo' ≤ d) : RowA G lo' T n cs a := by
  rcases h with h | ⟨id, h1, rfl, h3⟩
  · exact .inl h
  · exact .inr ⟨id, ha id (by simp [rid]), rfl, h3⟩
theorem HoldsN.nil : HoldsN [] (mpL (idxL [])) := fun s => by rw [lk_nil]; rfl
theorem holds_idx {l : List Fn1} {j : Nat} {f : Fn1} {es : Ents} (h : HoldsN es (mpL (idxL (l.take j)))) (hf : l[j]? = some f) : HoldsN (upM es f.name (.at (.int .i64 (j : Nat)))) (mpL (idxL (l.take (j + 1)))) := by
  intro s
  rw [idx_snoc hf, mpL_snoc, lk_up]
  by_cases e : s = f.name
  · rw [if_pos e, if_pos e]; rfl
  · rw [if_neg e, if_neg e]; exact h s
theorem HoldsN.fun {es : Ents} {F : List UInt8 → Option Nat} (h : HoldsN es F) (s : List UInt8) : (lkM es s).getD (.at (.int .i64 0)) = .at (.int .i64 (((F s).getD 0 : Nat) : Int)) := by
  rw [h s]
  cases F s <;> rfl

set_option maxHeartbeats 4000000 in
theorem Run_ok (p : Pr) (cs : List AT) (nm : List UInt8) (args : List Int) (q : Option (Nat × Nat)) (fuel : Int) (H : Heap) (hL : LPr H p cs) (hlow : LowP p) (hq : RowR H numC 1 args q) : Sim Try.prog 14 [.one (.agg cs), at' (.str nm), at' (.slice q args.length), at' (.int .i64 fuel)] H (fun u G => ∃ a, u = .one (.agg [.int .i64 (runS p nm args fuel).kind, .int .i64 (runS p nm args fuel).code, a, .int .i64 (runS p nm args fuel).value]) ∧ RowA G H.n 2 (runS p nm args fuel).out.length (numsC (runS p nm args fuel).out) a ∧ Kp [] H G) := by
 have hL0 := hL
 obtain ⟨pa, pf, rfl, hA, hF⟩ := hL
 refine Sim.of_tri Try.func14 rfl ?_
 show TrP 124 _ _ _ _
 refine Tri.seq ?_
 refine tR ?_
 refine sO rfl rfl (oBox (cs := [_, _]) rfl rfl ?_)
 refine sO rfl rfl (oAlloc (cs := [.int .i64 0, .int .i64 0, .slice none 0, .int .i64 0]) rfl rfl ?_)
 show TrP 124 _ _ _ _
 refine tH [(0, _), (1, _), (2, _), (3, _), (4, _), (8, _)] ?_
 refine Tri.seq ?_
 refine Tri.seq ?_
 refine tR ?_
 refine sO rfl rfl (oLoad (x := .agg [_, _]) rfl gG rfl ?_)
 refine sO rfl rfl (oF rfl (fnOk_of Try.func28 (by decide) rfl) (Check_ok p _ _ (hL0.kp (by repeat (first | exact Kp.refl | refine Kp.push ?_))) hlow) ?_)
 refine sO rfl rfl (oNE rfl (fun h19 => ?_) (fun h19 => ?_))
 ·
  refine sV rfl rfl rfl ?_
  iterate 2 refine sN rfl rfl ?_
  iterate 2 refine sV rfl rfl rfl ?_
  iterate 2 refine sN rfl rfl ?_
  refine sV rfl rfl rfl ?_
  show TrP 124 _ _ _ _
  refine tH [(0, _), (1, _), (2, _), (3, _), (4, _), (8, _), (27, _)] ?_
  refine tT rfl ?_
  refine Tri.seq ?_
  refine tR ?_
  refine sO rfl rfl (oW (.one (.agg [.int .i64 0, .int .i64 0, .slice none 0, .int .i64 0])) rfl rfl ?_)
  refine sO rfl rfl (oStore (n := 4) (cs' := [_, _, _, _]) rfl rfl rfl gG rfl (Nat.le_of_ble_eq_true rfl) rfl rfl ?_)
  show TrP 124 _ _ _ _
  refine tH [(0, _), (1, _), (2, _), (3, _), (4, _), (8, _), (27, _)] ?_
  refine Tri.ret ?_
  refine ⟨trivial, _, (resA_cell (x := .agg [_, _, _, _]) rfl gG rfl rfl), ?_⟩
  have e : runS p nm args fuel = OC.zero := by unfold runS; rw [if_pos (by first | exact .inl h19 | exact .inr (.inl h22) | exact .inr (.inr h26))]
  rw [e]; exact ⟨_, rfl, RowA.nil _ _ _, kZ⟩
 ·
  iterate 2 refine sV rfl rfl rfl ?_
  refine sO rfl rfl (oP rfl (fun h22 => ?_) (fun h22 => ?_))
  ·
   iterate 2 refine sV rfl rfl rfl ?_
   iterate 2 refine sN rfl rfl ?_
   refine sV rfl rfl rfl ?_
   show TrP 124 _ _ _ _
   refine tH [(0, _), (1, _), (2, _), (3, _), (4, _), (8, _), (27, _)] ?_
   refine tT rfl ?_
   refine Tri.seq ?_
   refine tR ?_
   refine sO rfl rfl (oW (.one (.agg [.int .i64 0, .int .i64 0, .slice none 0, .int .i64 0])) rfl rfl ?_)
   refine sO rfl rfl (oStore (n := 4) (cs' := [_, _, _, _]) rfl rfl rfl gG rfl (Nat.le_of_ble_eq_true rfl) rfl rfl ?_)
   show TrP 124 _ _ _ _
   refine tH [(0, _), (1, _), (2, _), (3, _), (4, _), (8, _), (27, _)] ?_
   refine Tri.ret ?_
   refine ⟨trivial, _, (resA_cell (x := .agg [_, _, _, _]) rfl gG rfl rfl), ?_⟩
   have e : runS p nm args fuel = OC.zero := by unfold runS; rw [if_pos (by first | exact .inl h19 | exact .inr (.inl h22) | exact .inr (.inr h26))]
   rw [e]; exact ⟨_, rfl, RowA.nil _ _ _, kZ⟩
  ·
   iterate 3 refine sV rfl rfl rfl ?_
   refine sO rfl rfl (oP rfl (fun h26 => ?_) (fun h26 => ?_))
   ·
    refine sV rfl rfl rfl ?_
    show TrP 124 _ _ _ _
    refine tH [(0, _), (1, _), (2, _), (3, _), (4, _), (8, _), (27, _)] ?_
    refine tT rfl ?_
    refine Tri.seq ?_
    refine tR ?_
    refine sO rfl rfl (oW (.one (.agg [.int .i64 0, .int .i64 0, .slice none 0, .int .i64 0])) rfl rfl ?_)
    refine sO rfl rfl (oStore (n := 4) (cs' := [_, _, _, _]) rfl rfl rfl gG rfl (Nat.le_of_ble_eq_true rfl) rfl rfl ?_)
    show TrP 124 _ _ _ _
    refine tH [(0, _), (1, _), (2, _), (3, _), (4, _), (8, _), (27, _)] ?_
    refine Tri.ret ?_
    refine ⟨trivial, _, (resA_cell (x := .agg [_, _, _, _]) rfl gG rfl rfl), ?_⟩
    have e : runS p nm args fuel = OC.zero := by unfold runS; rw [if_pos (by first | exact .inl h19 | exact .inr (.inl h22) | exact .inr (.inr h26))]
    rw [e]; exact ⟨_, rfl, RowA.nil _ _ _, kZ⟩
   ·
    refine sV rfl rfl rfl ?_
    show TrP 124 _ _ _ _
    refine tH [(0, _), (1, _), (2, _), (3, _), (4, _), (8, _), (27, _)] ?_
    refine tF rfl ?_
    refine Tri.skip ?_
    show TrP 124 _ _ _ _
    refine tH [(0, _), (1, _), (2, _), (3, _), (4, _), (8, _), (27, _)] ?_
    refine Tri.seq ?_
    refine tR ?_
    have hV := valid_of h19
    obtain ⟨fu, rfl⟩ : ∃ fu : Nat, fuel = (fu : Int) := ⟨fuel.toNat, by omega⟩
    have hfu : fu ≤ 1000 := by omega
    have hlA := hV.na
    have hlF := hV.nf
    refine sO rfl rfl (oLoad (x := .agg [_, _]) rfl gG rfl ?_)
    refine sV rfl rfl rfl ?_
    refine sO rfl rfl (oW (at' (.map (some _))) rfl rfl ?_)
    refine sO rfl rfl (oW (at' (.map (some _))) rfl rfl ?_)
    refine sO rfl rfl (oW (.one (.agg [_, _, _, _, _, .int .i64 0, .int .i64 0, .slice none 0])) rfl rfl ?_)
    refine sO rfl rfl (oBox (cs := [_, _, _, _, _, _, _, _]) rfl rfl ?_)
    refine sV rfl rfl rfl ?_
    show TrP 124 _ _ _ _
    refine tH [(0, _), (1, _), (2, _), (3, _), (4, _), (8, _), (9, _), (27, _)] ?_
    refine Tri.seq ?_
    refine Tri.seq ?_
    refine tR ?_
    refine sO rfl rfl (oW (at' (.ptr (some (_, 0)))) rfl rfl ?_)
    refine sO rfl rfl (oLoad (x := .at _) rfl gG rfl ?_)
    iterate 2 refine sV rfl rfl rfl ?_
    show TrP 124 _ _ _ _
    refine tH [(0, _), (1, _), (2, _), (3, _), (4, _), (8, _), (9, _), (27, _), (36, _), (37, _), (38, _)] ?_
    refine Tri.block ?_
    refine Tri.loop (fun k' lk1 H1 => ∃ (j : Nat) (pl : List UInt8 → Option Nat) (al : List Nat), k' = p.arrays.length - j ∧ j ≤ p.arrays.length ∧ ArrE H1 (H.n + 2) pl (arr0 (p.arrays.take j)) ∧ (∀ s i, pl s = some i → i ∈ al) ∧ (∀ i ∈ al, H.n + 5 ≤ i ∧ i < H1.n) ∧ H1.get (H.n + 3) = some (.map (ents [])) ∧ H1.get (H.n + 4) = some (.cells 77 1 [.slice pa p.arrays.length, .slice pf p.funcs.length, .map (some (H.n + 2)), .map (some (H.n + 3)), .int .i64 fu, .int .i64 0, .int .i64 0, .slice none 0]) ∧ H1.get H.n = some (.cells 25 1 [.slice pa p.arrays.length, .slice pf p.funcs.length]) ∧ H1.get (H.n + 1) = some (.cells 34 1 [.int .i64 0, .int .i64 0, .slice none 0, .int .i64 0]) ∧ Kp [] H H1 ∧ Has lk1 [(1, at' (.str nm)), (2, at' (.slice q args.length)), (4, at' (.ptr (some (H.n, 0)))), (8, at' (.ptr (some (H.n + 1, 0)))), (9, at' (.ptr (some (H.n + 4, 0)))), (36, at' (.slice pa p.arrays.length)), (37, at' (.int .i64 p.arrays.length)), (38, at' (.int .i64 j))]) (p.arrays.length) (⟨0, fun _ => none, [], rfl, by omega, ⟨⟨[], gG, fun s => rfl⟩, fun s i h => (by cases h), fun s _ => rfl, fun s t i h => (by cases h)⟩, fun s i h => (by cases h), fun i h => (by cases h), gG, gG, gG, gG, kZ, ⟨rfl, rfl, rfl, rfl, rfl, rfl, rfl, rfl, trivial⟩⟩) ?_
    rintro k' lk1 H1 ⟨j, pl, al, hk1, hj, hAr, hpl, hal, hmf, hmx, hbx, hzo, hk, hh⟩
    refine Tri.has hh ?_
    have hl1 := Heap.get_lt hmx
    have hl2 := Heap.get_lt hmf
    have hl3 := Heap.get_lt hbx
    have hl4 := Heap.get_lt hzo
    have hkn := hk.n
    refine Tri.seq ?_
    refine tR ?_
    refine sO rfl rfl (oP rfl (fun h39 => ?_) (fun h39 => ?_))
    ·
     show TrP 124 _ _ _ _
     refine tH [(1, _), (2, _), (4, _), (8, _), (9, _), (36, _), (37, _), (38, _), (39, _)] ?_
     refine Tri.seq ?_
     refine tT rfl ?_
     refine Tri.skip ?_
     show TrP 124 _ _ _ _
     refine tH [(1, _), (2, _), (4, _), (8, _), (9, _), (36, _), (37, _), (38, _), (39, _)] ?_
     refine Tri.seq ?_
     refine Tri.block ?_
     refine Tri.seq ?_
     refine tR ?_
     obtain ⟨a, ha⟩ : ∃ a, p.arrays[j]? = some a := ⟨_, List.getElem?_eq_getElem (by omega)⟩
     have hal1 := hV.al a (List.mem_of_getElem? ha)
     obtain ⟨id, oo, T, qq, c, hpa, hgB, hle, hLa⟩ := hA.at ha
     have hg := hk.get hgB rfl
     obtain ⟨n, hn⟩ : ∃ n : Nat, a.len = (n : Int) := ⟨a.len.toNat, by omega⟩
     unfold LAr at hLa
     rw [hn] at hLa
     refine sO rfl rfl (oIA (z := 2) (i := j) (n := p.arrays.length) (by rw [← hpa]; rfl) rfl rfl rfl (by omega) ?_)
     refine sO rfl rfl (oLoad (x := .agg [.str a.name, .int .i64 n]) rfl gG (part_all hLa hle rfl rfl rfl) ?_)
     refine sO rfl rfl (oAlloc (cs := [.str [], .int .i64 0]) rfl rfl ?_)
     refine sO rfl rfl (oStore (n := 2) (cs' := [_, _]) rfl rfl rfl gG rfl (Nat.le_of_ble_eq_true rfl) rfl rfl ?_)
     show TrP 124 _ _ _ _
     refine tH [(1, _), (2, _), (4, _), (8, _), (9, _), (11, _), (36, _), (37, _), (38, _), (39, _)] ?_
     refine Tri.drawn1 mixed eqsOk (eqs := eqs) ⟨[0, 1, 3, 7, 0, 16, 0, 64, 192, 511], [0, 0, 0, 0, 0, 0, 0, 0, 0, 0], 1, [0, 1, 2, 3, 4, 5, 6, 7, 8, 9]⟩ (by decide +kernel) rfl ?_
     refine dL rfl rfl rfl rfl (oV rfl ?_)
     refine dL rfl rfl rfl rfl (oV rfl ?_)
     refine dL rfl rfl rfl rfl (oW (at' (.ptr (some (_, _ + 2)))) rfl rfl ?_)
     refine dR0 rfl rfl rfl rfl (op_load_at (x := .at _) rfl gG rfl) ?_
     refine dL rfl rfl rfl rfl (oW (at' (.ptr (some (_, 0)))) rfl rfl ?_)
     refine dR0 rfl rfl rfl rfl (op_load_at (x := .at _) rfl gG rfl) ?_
     refine dL rfl rfl rfl rfl (oW (at' (.ptr (some (_, 1)))) rfl rfl ?_)
     refine dR0 rfl rfl rfl rfl (op_load_at (x := .at _) rfl gG rfl) ?_
     refine dM rfl rfl rfl rfl (obj := .cells 2 2 (numsC (List.replicate n 0))) (v := at' (.slice (some (_ + 0, 0)) n)) (mkSl_at (n := n) rfl rfl rfl rfl rfl rfl rfl (by omega)) ?_
     obtain ⟨es, hes, hlk⟩ := hAr.m
     have hel := Heap.get_lt hes
     refine dCm (Heap.set (Heap.push _ .dead) (_ + 0) _) (.drop rfl .nil) (.drop rfl (.drop rfl (.drop rfl .nil))) rfl rfl rfl rfl rfl (oMapUp rfl rfl rfl rfl rfl gG ?_)
     refine ⟨⟨.inl rfl, .inl rfl, .inl rfl, trivial⟩, ?_⟩
     refine dE0 ?_
     show TrP 124 _ _ _ _
     refine tH [(1, _), (2, _), (4, _), (8, _), (9, _), (11, _), (36, _), (37, _), (38, _), (39, _)] ?_
     refine tR ?_
     refine sO rfl rfl (oAdd (m := 1) rfl (by omega) ?_)
     refine sV rfl rfl rfl ?_
     have hne : ∀ s i, pl s = some i → i ≠ H.n + 2 := fun s i hp => by have := hal i (hpl s i hp); omega
     refine ⟨p.arrays.length - (j + 1), by omega, j + 1, upd1 pl a.name (some (H1.n + 1)), (H1.n + 1) :: al, rfl, by omega, ?_, fun s i hp => ?_, fun i hi => ?_, gG, gG, gG, gG, kH, ⟨rfl, rfl, rfl, rfl, rfl, rfl, rfl, rfl, trivial⟩⟩
     · rw [arr0_snoc ha, hn, Int.toNat_natCast]
       have key := fun (G : Heap) hes' hk' hr' => ArrE.new (G := G) (i := H1.n + 1) (l := List.replicate n 0) (s := a.name) hAr hes' hel hlk hk' hne hr' (by omega)
       rw [List.length_replicate] at key
       exact key _ gG (kpL kZ) gG
     · unfold upd1 at hp
       split at hp
       · cases hp; simp
       · exact List.mem_cons_of_mem _ (hpl s i hp)
     · rcases List.mem_cons.1 hi with h | h
       · subst h
         have := hk.n
         simp only [Heap.n_push, Heap.n_set]; omega
       · have := hal i h
         simp only [Heap.n_push, Heap.n_set]; omega
    ·
     show TrP 124 _ _ _ _
     refine tH [(1, _), (2, _), (4, _), (8, _), (9, _), (36, _), (37, _), (38, _), (39, _)] ?_
     refine Tri.seq ?_
     refine tF rfl ?_
     refine Tri.exit ?_
     show TrP 124 _ _ _ _
     refine tH [(1, _), (2, _), (4, _), (8, _), (9, _), (36, _), (37, _), (38, _), (39, _)] ?_
     refine Tri.seq ?_
     refine Tri.seq ?_
     refine tR ?_
     refine sO rfl rfl (oW (at' (.ptr (some (_, 1)))) rfl rfl ?_)
     refine sO rfl rfl (oLoad (x := .at _) rfl gG rfl ?_)
     iterate 2 refine sV rfl rfl rfl ?_
     show TrP 124 _ _ _ _
     refine tH [(1, _), (2, _), (4, _), (8, _), (9, _), (36, _), (37, _), (38, _), (39, _), (53, _), (54, _), (55, _)] ?_
     refine Tri.block ?_
     refine Tri.loop (fun k' lk1 H1 => ∃ (j : Nat) (es : Ents), k' = p.funcs.length - j ∧ j ≤ p.funcs.length ∧ ArrE H1 (H.n + 2) pl (arr0 p.arrays) ∧ (∀ i ∈ al, H.n + 5 ≤ i ∧ i < H1.n) ∧ H1.get (H.n + 3) = some (.map (ents es)) ∧ HoldsN es (mpL (idxL (p.funcs.take j))) ∧ H1.get (H.n + 4) = some (.cells 77 1 [.slice pa p.arrays.length, .slice pf p.funcs.length, .map (some (H.n + 2)), .map (some (H.n + 3)), .int .i64 fu, .int .i64 0, .int .i64 0, .slice none 0]) ∧ H1.get H.n = some (.cells 25 1 [.slice pa p.arrays.length, .slice pf p.funcs.length]) ∧ H1.get (H.n + 1) = some (.cells 34 1 [.int .i64 0, .int .i64 0, .slice none 0, .int .i64 0]) ∧ Kp [] H H1 ∧ Has lk1 [(1, at' (.str nm)), (2, at' (.slice q args.length)), (4, at' (.ptr (some (H.n, 0)))), (8, at' (.ptr (some (H.n + 1, 0)))), (9, at' (.ptr (some (H.n + 4, 0)))), (53, at' (.slice pf p.funcs.length)), (54, at' (.int .i64 p.funcs.length)), (55, at' (.int .i64 j))]) (p.funcs.length) (⟨0, [], rfl, by omega, (by rw [← List.take_of_length_le (l := p.arrays) (i := j) (by omega)]; exact hAr), hal, hmf, HoldsN.nil, hmx, hbx, hzo, hk, ⟨rfl, rfl, rfl, rfl, rfl, rfl, rfl, rfl, trivial⟩⟩) ?_
     rintro k' lk1 H2 ⟨jf, es, hk2, hjf, hAr2, hal, hmf, hN, hmx, hbx, hzo, hk, hh⟩
     refine Tri.has hh ?_
     have hl1 := Heap.get_lt hmx
     have hl2 := Heap.get_lt hmf
     have hl3 := Heap.get_lt hbx
     have hl4 := Heap.get_lt hzo
     have hkn := hk.n
     refine Tri.seq ?_
     refine tR ?_
     refine sO rfl rfl (oP rfl (fun h56 => ?_) (fun h56 => ?_))
     ·
      show TrP 124 _ _ _ _
      refine tH [(1, _), (2, _), (4, _), (8, _), (9, _), (53, _), (54, _), (55, _), (56, _)] ?_
      refine Tri.seq ?_
      refine tT rfl ?_
      refine Tri.skip ?_
      show TrP 124 _ _ _ _
      refine tH [(1, _), (2, _), (4, _), (8, _), (9, _), (53, _), (54, _), (55, _), (56, _)] ?_
      refine Tri.seq ?_
      refine Tri.block ?_
      refine Tri.seq ?_
      refine tR ?_
      refine sV rfl rfl rfl ?_
      obtain ⟨g, hgj⟩ : ∃ g, p.funcs[jf]? = some g := ⟨_, List.getElem?_eq_getElem (by omega)⟩
      obtain ⟨id, oo, T, qq, c, hpf, hgB, hle, hLg⟩ := hF.at hgj
      have hg := hk.get hgB rfl
      obtain ⟨pp, pl2, pb, b1, b2, b3, b4, b5, nb, hgcs, _⟩ := hLg.out
      refine sO rfl rfl (oIA (z := 9) (i := jf) (n := p.funcs.length) (by rw [← hpf]; rfl) rfl rfl rfl (by omega) ?_)
      refine sO rfl rfl (oLoad (x := .agg [.str g.name, .slice pp g.params.length, .slice pl2 g.locals.length, .slice pb g.body.length, .int .i64 b1, .int .i64 b2, .str b3, .int .i64 b4, .slice b5 nb]) rfl gG (part_all hgcs hle rfl rfl rfl) ?_)
      refine sO rfl rfl (oAlloc (cs := [.str [], .slice none 0, .slice none 0, .slice none 0, .int .i64 0, .int .i64 0, .str [], .int .i64 0, .slice none 0]) rfl rfl ?_)
      refine sV rfl rfl rfl ?_
      refine sO rfl rfl (oStore (n := 9) (cs' := [_, _, _, _, _, _, _, _, _]) rfl rfl rfl gG rfl (Nat.le_of_ble_eq_true rfl) rfl rfl ?_)
      show TrP 124 _ _ _ _
      refine tH [(1, _), (2, _), (4, _), (8, _), (9, _), (12, _), (13, _), (53, _), (54, _), (55, _), (56, _)] ?_
      refine Tri.drawn1 mixed eqsOk (eqs := eqs) ⟨[0, 1, 3, 7, 0, 16, 0, 127], [0, 0, 0, 0, 0, 0, 0, 0], 1, [0, 1, 2, 3, 4, 5, 6, 7]⟩ (by decide +kernel) rfl ?_
      refine dL rfl rfl rfl rfl (oV rfl ?_)
      refine dL rfl rfl rfl rfl (oV rfl ?_)
      refine dL rfl rfl rfl rfl (oW (at' (.ptr (some (_, _ + 3)))) rfl rfl ?_)
      refine dR0 rfl rfl rfl rfl (op_load_at (x := .at _) rfl gG rfl) ?_
      refine dL rfl rfl rfl rfl (oW (at' (.ptr (some (_, 0)))) rfl rfl ?_)
      refine dR0 rfl rfl rfl rfl (op_load_at (x := .at _) rfl gG rfl) ?_
      refine dL rfl rfl rfl rfl (oV rfl ?_)
      have hel := Heap.get_lt hmf
      refine dC0 (.drop rfl (.drop rfl .nil)) rfl rfl rfl rfl (oMapUp rfl rfl rfl rfl rfl gG ?_)
      refine ⟨⟨.inl rfl, .inl rfl, trivial⟩, ?_⟩
      refine dE0 ?_
      show TrP 124 _ _ _ _
      refine tH [(1, _), (2, _), (4, _), (8, _), (9, _), (12, _), (13, _), (53, _), (54, _), (55, _), (56, _)] ?_
      refine tR ?_
      refine sO rfl rfl (oAdd (m := 1) rfl (by omega) ?_)
      refine sV rfl rfl rfl ?_
      exact ⟨p.funcs.length - (jf + 1), by omega, jf + 1, _, rfl, by omega, hAr2.kp1 (own := [H.n + 3]) (by repeat (first | exact Kp.refl | refine Kp.push ?_ | refine Kp.set ?_ lL (by first | exact .inr (by first | omega | (simp only [Heap.n_push, Heap.n_set]; omega)) | exact .inl (by simp)))) (by simp) (fun s i hp => by have := hal i (hpl s i hp); simp only [List.mem_cons, List.not_mem_nil, or_false]; omega), fun i hi => by have := hal i hi; simp only [Heap.n_push, Heap.n_set]; omega, Heap.set_newl lL, holds_idx hN hgj, gG, gG, gG, kH, ⟨rfl, rfl, rfl, rfl, rfl, rfl, rfl, rfl, trivial⟩⟩
     ·
      show TrP 124 _ _ _ _
      refine tH [(1, _), (2, _), (4, _), (8, _), (9, _), (53, _), (54, _), (55, _), (56, _)] ?_
      refine Tri.seq ?_
      refine tF rfl ?_
      refine Tri.exit ?_
      show TrP 124 _ _ _ _
      refine tH [(1, _), (2, _), (4, _), (8, _), (9, _), (53, _), (54, _), (55, _), (56, _)] ?_
      refine Tri.seq ?_
      refine tR ?_
      have hN2 : HoldsN es (fidx p) := by
        have h := hN
        rw [List.take_of_length_le (by omega)] at h
        exact h
      iterate 2 refine sV rfl rfl rfl ?_
      refine sO rfl rfl (oW (at' (.ptr (some (_, _ + 3)))) rfl rfl ?_)
      refine sO rfl rfl (oLoad (x := .at _) rfl gG rfl ?_)
      refine sV rfl rfl rfl ?_
      refine sO rfl rfl (oLookN rfl rfl rfl rfl rfl gG hN2 (fun i74 h74 => ?_) (fun h74 => ?_))
      ·
       iterate 5 refine sV rfl rfl rfl ?_
       show TrP 124 _ _ _ _
       refine tH [(1, _), (2, _), (4, _), (8, _), (9, _), (14, _), (15, _), (53, _), (54, _), (55, _), (56, _)] ?_
       refine Tri.seq ?_
       refine Tri.seq ?_
       refine tR ?_
       iterate 3 refine sV rfl rfl rfl ?_
       refine sO rfl rfl (oW (at' (.ptr (some (_, 1)))) rfl rfl ?_)
       refine sO rfl rfl (oLoad (x := .at _) rfl gG rfl ?_)
       refine sV rfl rfl rfl ?_
       obtain ⟨g, hgi, hgn, hfo⟩ := fidx_spec h74
       have hil := (List.getElem?_eq_some_iff.1 hgi).1
       obtain ⟨id, oo, T, qq, c, hpf, hgB, hle, hLg⟩ := hF.at hgi
       have hg := hk.get hgB rfl
       obtain ⟨pp, pl2, pb, b1, b2, b3, b4, b5, nb, hgcs, _⟩ := hLg.out
       refine sO rfl rfl (oIA (z := 9) (i := i74) (n := p.funcs.length) (by rw [← hpf]; rfl) rfl rfl rfl hil ?_)
       refine sO rfl rfl (oW (at' (.ptr (some (_, _ + 1)))) rfl rfl ?_)
       refine sO rfl rfl (oLoad (x := .at (.slice pp g.params.length)) rfl hg (part_cell 1 hgcs (by decide) rfl rfl rfl rfl) ?_)
       iterate 3 refine sV rfl rfl rfl ?_
       refine sO rfl rfl (oNE rfl (fun h89 => ?_) (fun h89 => ?_))
       ·
        refine sV rfl rfl rfl ?_
        show TrP 124 _ _ _ _
        refine tH [(1, _), (2, _), (4, _), (8, _), (9, _), (14, _), (15, _), (53, _), (54, _), (55, _), (56, _), (90, _)] ?_
        refine tT rfl ?_
        refine Tri.seq ?_
        refine tR ?_
        refine sO rfl rfl (oW (.one (.agg [.int .i64 0, .int .i64 0, .slice none 0, .int .i64 0])) rfl rfl ?_)
        refine sO rfl rfl (oStore (n := 4) (cs' := [_, _, _, _]) rfl rfl rfl gG rfl (Nat.le_of_ble_eq_true rfl) rfl rfl ?_)
        show TrP 124 _ _ _ _
        refine tH [(1, _), (2, _), (4, _), (8, _), (9, _), (14, _), (15, _), (53, _), (54, _), (55, _), (56, _), (90, _)] ?_
        refine Tri.ret ?_
        refine ⟨trivial, _, (resA_cell (x := .agg [_, _, _, _]) rfl gG rfl rfl), ?_⟩
        have e : runS p nm args ((fu : Nat) : Int) = OC.zero := by
          unfold runS
          rw [if_neg (by omega)]
          first
            | (have e2 : fnOf p nm = none := by unfold fnOf; rw [h74]; rfl
               rw [e2])
            | (rw [hfo]; simp only []; rw [if_pos (by omega)])
        rw [e]; exact ⟨_, rfl, RowA.nil _ _ _, kH⟩
       ·
        refine sV rfl rfl rfl ?_
        show TrP 124 _ _ _ _
        refine tH [(1, _), (2, _), (4, _), (8, _), (9, _), (14, _), (15, _), (53, _), (54, _), (55, _), (56, _), (90, _)] ?_
        refine tF rfl ?_
        refine Tri.skip ?_
        show TrP 124 _ _ _ _
        refine tH [(1, _), (2, _), (4, _), (8, _), (9, _), (14, _), (15, _), (53, _), (54, _), (55, _), (56, _), (90, _)] ?_
        refine Tri.seq ?_
        refine tR ?_
        have hX : CxOk (Cx.mk (H.n + 4) (Fix.mk pa p.arrays.length pf p.funcs.length (H.n + 2) (H.n + 3)) pl al H (fun s => (fidx p s).getD 0) (fnOf p) p.funcs 200) := ⟨by show H.n ≤ H.n + 4; omega, by show H.n + 4 ≠ H.n + 2; omega, by show H.n + 4 ≠ H.n + 3; omega, fun i hi => by have := hal i hi; exact ⟨by show H.n ≤ i; omega, by show i ≠ H.n + 4; omega, by show i ≠ H.n + 2; omega, by show i ≠ H.n + 3; omega⟩, hpl, hF, rfl, by show p.funcs.length ≤ 1000; omega, fun s g hs => fnOf_idx hs, fun g hg => by obtain ⟨q1, q2, q3, q4, q5⟩ := hV.ok g hg; exact ⟨q1, q2, q3, q4, by omega⟩, by show 200 ≤ 1000000; omega⟩
        have hM : Mach (Cx.mk (H.n + 4) (Fix.mk pa p.arrays.length pf p.funcs.length (H.n + 2) (H.n + 3)) pl al H (fun s => (fidx p s).getD 0) (fnOf p) p.funcs 200) (H.n + 3) (St.mk ⟨fu, 0, 0⟩ (arr0 p.arrays) (fun s => ((fidx p s).getD 0 : Nat)) []) (.slice none 0) H2 := ⟨hmx, ⟨es, hmf, hN2.fun⟩, hAr2, ⟨es, hmf, hN2.fun⟩, RowA.nil _ _ _, hk, ⟨by show H.n ≤ H.n + 3; omega, by show H.n + 3 ≠ H.n + 4; omega, by show H.n + 3 ≠ H.n + 2; omega, fun hm => by have := hal _ hm; omega, fun hm => (by cases hm)⟩, fun d hd => (by cases hd), fun i hi => (hal i hi).2⟩
        have hlens : args.length = g.params.length := by omega
        iterate 3 refine sV rfl rfl rfl ?_
        refine sO rfl rfl (oC rfl (fnOk_of Try.func29 (by decide) rfl) ((runs_all hX fu hfu).2 g i74 args q (St.mk ⟨fu, 0, 0⟩ (arr0 p.arrays) (fun s => ((fidx p s).getD 0 : Nat)) []) (H.n + 3) (.slice none 0) H2 (Nat.le_refl _) hM hgi hlens (hq.kp hk) (by show 0 + fu * 200 + 200 ≤ 1099511627776; omega)) ?_)
        rintro u G2 ⟨rfl, o2, hM2, hk2, ho2⟩
        have hc2 : G2.get (H.n + 4) = some (.cells 77 1 (mcC (Fix.mk pa p.arrays.length pf p.funcs.length (H.n + 2) (H.n + 3)) (endV p g args fu).1 o2)) := hM2.c
        have ho3 : RowA G2 H.n 2 (endS p g args fu).out.length (numsC (endS p g args fu).out) o2 := RowA.lo hM2.o1 (fun d hd => by have := hk.n; rcases ho2 d hd with h | h; cases h; omega)
        have K2 : Kp [] H G2 := hk.trans hk2 fun i hi => .inr (by
          simp only [rid, List.nil_append] at hi
          rcases List.mem_cons.1 hi with h | h
          · rw [h]; show H.n ≤ H.n + 4; omega
          · have := hal i h; omega)
        have hz2 : G2.get (H.n + 1) = some (.cells 34 1 [.int .i64 0, .int .i64 0, .slice none 0, .int .i64 0]) := hk2.g _ _ hzo rfl (fun hm => by
          simp only [rid, List.nil_append] at hm
          rcases List.mem_cons.1 hm with h | h
          · have : H.n + 1 = H.n + 4 := h
            omega
          · have := hal _ h; omega)
        have hzl2 := Heap.get_lt hz2
        have hrun : runS p nm args ((fu : Nat) : Int) = ocS p g args fu := by
          unfold runS
          rw [if_neg (by omega), hfo]
          simp only []
          rw [if_neg (by omega), Int.toNat_natCast]
        refine sV rfl rfl rfl ?_
        show TrP 124 _ _ _ _
        refine tH [(1, _), (2, _), (4, _), (8, _), (9, _), (14, _), (15, _), (16, _), (53, _), (54, _), (55, _), (56, _), (90, _)] ?_
        refine Tri.seq ?_
        refine Tri.seq ?_
        refine tR ?_
        iterate 2 refine sV rfl rfl rfl ?_
        refine sO rfl rfl (oW (at' (.ptr (some (_, _ + 5)))) rfl rfl ?_)
        refine sO rfl rfl (oLoad (x := .at _) rfl gG rfl ?_)
        show TrP 124 _ _ _ _
        refine tH [(1, _), (2, _), (4, _), (8, _), (9, _), (14, _), (15, _), (16, _), (53, _), (54, _), (55, _), (56, _), (90, _), (99, _)] ?_
        refine Tri.block ?_
        refine Tri.seq ?_
        refine tR ?_
        refine sO rfl rfl (oE rfl (fun h101 => ?_) (fun h101 => ?_))
        ·
         refine sV rfl rfl rfl ?_
         show TrP 124 _ _ _ _
         refine tH [(1, _), (2, _), (4, _), (8, _), (9, _), (14, _), (15, _), (16, _), (53, _), (54, _), (55, _), (56, _), (90, _), (99, _), (100, _)] ?_
         refine tT rfl ?_
         refine Tri.seq ?_
         refine Tri.drawn1 mixed eqsOk (eqs := eqs) ⟨[0, 1, 3, 7, 0, 16, 48, 112, 255, 511], [0, 0, 0, 0, 0, 0, 0, 0, 0, 0], 1, [0, 1, 2, 3, 4, 5, 6, 7, 8, 9]⟩ (by decide +kernel) rfl ?_
         refine dL rfl rfl rfl rfl (oV rfl ?_)
         refine dL rfl rfl rfl rfl (oV rfl ?_)
         refine dL rfl rfl rfl rfl (oW (at' (.ptr (some (_, _ + 6)))) rfl rfl ?_)
         refine dR0 rfl rfl rfl rfl (op_load_at (x := .at _) rfl gG rfl) ?_
         refine dL rfl rfl rfl rfl (oV rfl ?_)
         refine dL rfl rfl rfl rfl (oV rfl ?_)
         refine dL rfl rfl rfl rfl (oW (at' (.ptr (some (_, _ + 7)))) rfl rfl ?_)
         refine dR0 rfl rfl rfl rfl (op_load_at (x := .at _) rfl gG rfl) ?_
         refine dL rfl rfl rfl rfl (oW (.one (.agg [_, _, _, .int .i64 0])) rfl rfl ?_)
         refine dC0 (.drop rfl (.drop rfl .nil)) rfl rfl rfl rfl (oStore (n := 4) (cs' := [_, _, _, _]) rfl rfl rfl gG rfl (Nat.le_of_ble_eq_true rfl) rfl rfl ?_)
         refine ⟨⟨.inl rfl, .inl rfl, trivial⟩, ?_⟩
         refine dE0 ?_
         show TrP 124 _ _ _ _
         refine tH [(1, _), (2, _), (4, _), (8, _), (9, _), (14, _), (15, _), (16, _), (53, _), (54, _), (55, _), (56, _), (90, _), (99, _), (100, _)] ?_
         refine Tri.ret ?_
         refine ⟨trivial, _, (resA_cell (x := .agg [_, _, _, _]) rfl gG rfl rfl), ?_⟩
         have e : runS p nm args ((fu : Nat) : Int) = ⟨2, (endV p g args fu).1.code, (endS p g args fu).out, 0⟩ := by rw [hrun]; unfold ocS; rw [if_pos h101]
         rw [e]; exact ⟨o2, rfl, ho3.kpr (own := [H.n + 1]) kQ (fun d hd hm => by
           simp only [List.mem_cons, List.not_mem_nil, or_false] at hm
           subst hm
           exact hM2.box (i := H.n + 1) hz2 hd), kH⟩
        ·
         refine sV rfl rfl rfl ?_
         show TrP 124 _ _ _ _
         refine tH [(1, _), (2, _), (4, _), (8, _), (9, _), (14, _), (15, _), (16, _), (53, _), (54, _), (55, _), (56, _), (90, _), (99, _), (100, _)] ?_
         refine tF rfl ?_
         refine Tri.seq ?_
         refine tR ?_
         refine sO rfl rfl (oE rfl (fun h112 => ?_) (fun h112 => ?_))
         ·
          refine sV rfl rfl rfl ?_
          show TrP 124 _ _ _ _
          refine tH [(1, _), (2, _), (4, _), (8, _), (9, _), (14, _), (15, _), (16, _), (53, _), (54, _), (55, _), (56, _), (90, _), (99, _), (100, _), (111, _)] ?_
          refine tT rfl ?_
          refine Tri.seq ?_
          refine tR ?_
          iterate 2 refine sV rfl rfl rfl ?_
          refine sO rfl rfl (oW (at' (.ptr (some (_, _ + 7)))) rfl rfl ?_)
          refine sO rfl rfl (oLoad (x := .at _) rfl gG rfl ?_)
          refine sO rfl rfl (oW (.one (.agg [_, .int .i64 0, _, .int .i64 0])) rfl rfl ?_)
          refine sO rfl rfl (oStore (n := 4) (cs' := [_, _, _, _]) rfl rfl rfl gG rfl (Nat.le_of_ble_eq_true rfl) rfl rfl ?_)
          show TrP 124 _ _ _ _
          refine tH [(1, _), (2, _), (4, _), (8, _), (9, _), (14, _), (15, _), (16, _), (53, _), (54, _), (55, _), (56, _), (90, _), (99, _), (100, _), (111, _)] ?_
          refine Tri.ret ?_
          refine ⟨trivial, _, (resA_cell (x := .agg [_, _, _, _]) rfl gG rfl rfl), ?_⟩
          have e : runS p nm args ((fu : Nat) : Int) = ⟨3, 0, (endS p g args fu).out, 0⟩ := by rw [hrun]; unfold ocS; rw [if_neg h101, if_pos h112]
          rw [e]; exact ⟨o2, rfl, ho3.kpr (own := [H.n + 1]) kQ (fun d hd hm => by
            simp only [List.mem_cons, List.not_mem_nil, or_false] at hm
            subst hm
            exact hM2.box (i := H.n + 1) hz2 hd), kH⟩
         ·
          refine sV rfl rfl rfl ?_
          show TrP 124 _ _ _ _
          refine tH [(1, _), (2, _), (4, _), (8, _), (9, _), (14, _), (15, _), (16, _), (53, _), (54, _), (55, _), (56, _), (90, _), (99, _), (100, _), (111, _)] ?_
          refine tF rfl ?_
          refine Tri.skip ?_
          show TrP 124 _ _ _ _
          refine tH [(1, _), (2, _), (4, _), (8, _), (9, _), (14, _), (15, _), (16, _), (53, _), (54, _), (55, _), (56, _), (90, _), (99, _), (100, _), (111, _)] ?_
          refine Tri.seq ?_
          refine tR ?_
          iterate 3 refine sV rfl rfl rfl ?_
          refine sO rfl rfl (oW (at' (.ptr (some (_, _ + 7)))) rfl rfl ?_)
          refine sO rfl rfl (oLoad (x := .at _) rfl gG rfl ?_)
          refine sO rfl rfl (oW (.one (.agg [_, .int .i64 0, _, _])) rfl rfl ?_)
          refine sO rfl rfl (oStore (n := 4) (cs' := [_, _, _, _]) rfl rfl rfl gG rfl (Nat.le_of_ble_eq_true rfl) rfl rfl ?_)
          show TrP 124 _ _ _ _
          refine tH [(1, _), (2, _), (4, _), (8, _), (9, _), (14, _), (15, _), (16, _), (53, _), (54, _), (55, _), (56, _), (90, _), (99, _), (100, _), (111, _)] ?_
          refine Tri.ret ?_
          refine ⟨trivial, _, (resA_cell (x := .agg [_, _, _, _]) rfl gG rfl rfl), ?_⟩
          have e : runS p nm args ((fu : Nat) : Int) = ⟨1, 0, (endS p g args fu).out, (endV p g args fu).2⟩ := by rw [hrun]; unfold ocS; rw [if_neg h101, if_neg h112]
          rw [e]; exact ⟨o2, rfl, ho3.kpr (own := [H.n + 1]) kQ (fun d hd hm => by
            simp only [List.mem_cons, List.not_mem_nil, or_false] at hm
            subst hm
            exact hM2.box (i := H.n + 1) hz2 hd), kH⟩
      ·
       iterate 5 refine sV rfl rfl rfl ?_
       show TrP 124 _ _ _ _
       refine tH [(1, _), (2, _), (4, _), (8, _), (9, _), (14, _), (15, _), (53, _), (54, _), (55, _), (56, _)] ?_
       refine Tri.seq ?_
       refine Tri.seq ?_
       refine tR ?_
       iterate 3 refine sV rfl rfl rfl ?_
       iterate 10 refine sN rfl rfl ?_
       refine sV rfl rfl rfl ?_
       show TrP 124 _ _ _ _
       refine tH [(1, _), (2, _), (4, _), (8, _), (9, _), (14, _), (15, _), (53, _), (54, _), (55, _), (56, _), (90, _)] ?_
       refine tT rfl ?_
       refine Tri.seq ?_
       refine tR ?_
       refine sO rfl rfl (oW (.one (.agg [.int .i64 0, .int .i64 0, .slice none 0, .int .i64 0])) rfl rfl ?_)
       refine sO rfl rfl (oStore (n := 4) (cs' := [_, _, _, _]) rfl rfl rfl gG rfl (Nat.le_of_ble_eq_true rfl) rfl rfl ?_)
       show TrP 124 _ _ _ _
       refine tH [(1, _), (2, _), (4, _), (8, _), (9, _), (14, _), (15, _), (53, _), (54, _), (55, _), (56, _), (90, _)] ?_
       refine Tri.ret ?_
       refine ⟨trivial, _, (resA_cell (x := .agg [_, _, _, _]) rfl gG rfl rfl), ?_⟩
       have e : runS p nm args ((fu : Nat) : Int) = OC.zero := by
         unfold runS
         rw [if_neg (by omega)]
         first
           | (have e2 : fnOf p nm = none := by unfold fnOf; rw [h74]; rfl
              rw [e2])
           | (rw [hfo]; simp only []; rw [if_pos (by omega)])
       rw [e]; exact ⟨_, rfl, RowA.nil _ _ _, kH⟩
end Go.Proofs.Ytnhobbjbgljpnaa
