/-
  CONTRACTS of the checker: resolve, Check (printed by wip/tools/walk.py from wip/specs/chkF.py). Written in this session.
-/
import Derived.Test.YtceakkomleaibaaCe
namespace Go.Proofs.Ytceakkomleaibaa
open Go.Ea
set_option maxRecDepth 100000
set_option linter.unusedVariables false
set_option linter.unusedSimpArgs false

/-- A map as a set. -/
def HoldsF (es : Ents) (V : List UInt8 → Bool) : Prop := SetE es ∧ ∀ s, (lkM es s).isSome = V s
theorem HoldsT.f {es : Ents} {seen l : List (List UInt8)} (h : HoldsT es seen) (hm : ∀ s, s ∈ seen ↔ s ∈ l) : HoldsF es fun s => decide (s ∈ l) :=
  ⟨h.1, fun s => by rw [h.2 s]; exact decide_eq_decide.2 (hm s)⟩
def HoldsN (es : Ents) (F : List UInt8 → Option Nat) : Prop := ∀ s, lkM es s = (F s).map fun (n : Nat) => A1.at (.int .i64 (n : Int))
/-- A set in a cell. -/
def SetIn (H : Heap) (id m : Nat) (es : Ents) : Prop := H.get id = some (.cells 75 1 [.map (some m)]) ∧ H.get m = some (.map (ents es))
theorem SetIn.kp {H H' : Heap} {id m : Nat} {es : Ents} (h : SetIn H id m es) (hk : Kp [] H H') : SetIn H' id m es := ⟨hk.get h.1 rfl, hk.get h.2 rfl⟩
theorem SetIn.kpo {H H' : Heap} {id m w : Nat} {es : Ents} (h : SetIn H id m es) (hk : Kp [w] H H') (h1 : id ≠ w) (h2 : m ≠ w) : SetIn H' id m es := ⟨hk.g _ _ h.1 rfl (by simpa using h1), hk.g _ _ h.2 rfl (by simpa using h2)⟩
def okX (V A : List UInt8 → Bool) (e : Exp) : Bool := (decide (e.kind ≠ 2) || V e.name) && (decide (e.kind ≠ 3) || A e.name)
def stepV (V A : List UInt8 → Bool) (_ : Unit) (a : Exp × Nat) : Bool × Unit := (okX V A a.1, ())
def stepR (V A : List UInt8 → Bool) (F : List UInt8 → Option Nat) (w : Int) (a : Stm × Nat) : Bool × Int :=
  if a.1.kind = 1 then (V a.1.name, w) else if a.1.kind = 2 then (A a.1.name, w) else if a.1.kind = 6 then
    (match F a.1.to with | none => (false, w) | some n => (V a.1.name, if (n : Int) ≠ (a.1.args.length : Int) then 5 else w)) else (true, w)
theorem stepR_1 {V A : List UInt8 → Bool} {F : List UInt8 → Option Nat} {w : Int} {x : Stm} {d : Nat} (h : x.kind = 1) : stepR V A F w (x, d) = (V x.name, w) := by unfold stepR; rw [if_pos h]
theorem stepR_2 {V A : List UInt8 → Bool} {F : List UInt8 → Option Nat} {w : Int} {x : Stm} {d : Nat} (h : x.kind = 2) : stepR V A F w (x, d) = (A x.name, w) := by unfold stepR; rw [if_neg (by (show ¬ x.kind = 1); omega), if_pos h]
theorem stepR_6n {V A : List UInt8 → Bool} {F : List UInt8 → Option Nat} {w : Int} {x : Stm} {d : Nat} (h : x.kind = 6) (hF : F x.to = none) : stepR V A F w (x, d) = (false, w) := by unfold stepR; rw [if_neg (by (show ¬ x.kind = 1); omega), if_neg (by (show ¬ x.kind = 2); omega), if_pos h]; simp only [hF]
theorem stepR_6s {V A : List UInt8 → Bool} {F : List UInt8 → Option Nat} {w : Int} {x : Stm} {d n : Nat} (h : x.kind = 6) (hF : F x.to = some n) : stepR V A F w (x, d) = (V x.name, if (n : Int) ≠ (x.args.length : Int) then 5 else w) := by unfold stepR; rw [if_neg (by (show ¬ x.kind = 1); omega), if_neg (by (show ¬ x.kind = 2); omega), if_pos h]; simp only [hF]
theorem stepR_0 {V A : List UInt8 → Bool} {F : List UInt8 → Option Nat} {w : Int} {x : Stm} {d : Nat} (h1 : ¬ x.kind = 1) (h2 : ¬ x.kind = 2) (h6 : ¬ x.kind = 6) : stepR V A F w (x, d) = (true, w) := by unfold stepR; rw [if_neg h1, if_neg h2, if_neg h6]
section
variable {P : Program} {eqs : Eqs} {lk : Env} {H : Heap} {K : AV → Heap → Prop}
theorem oLookN {t : TypeId} {x ix : Operand} {id : Nat} {s : List UInt8} {l : Ents} {kt et : TypeId} {F : List UInt8 → Option Nat} (hx : rho lk x = some (at' (.map (some id)))) (hi : rho lk ix = some (at' (.str s))) (hu : P.underlying t = some (.map kt et)) (hk : keyD (P.underlying kt) (.str s) = true) (hz : zeroOf P et = some (.at (.int .i64 0))) (hg : H.get id = some (.map (ents l))) (hN : HoldsN l F)
    (hs : ∀ n, F s = some n → K (.tup [.at (.int .i64 n), .at (.bool true)]) H) (hn : F s = none → K (.tup [.at (.int .i64 0), .at (.bool false)]) H) : opP P eqs (.lookup t x ix true) lk H K := by
  refine oLook2 hx hi hu hk hz hg ?_
  rw [hN s]
  cases h : F s with
  | none => exact hn h
  | some n => exact hs n h
theorem oLookF {t : TypeId} {x ix : Operand} {id : Nat} {s : List UInt8} {l : Ents} {kt et : TypeId} {V : List UInt8 → Bool} (hx : rho lk x = some (at' (.map (some id)))) (hi : rho lk ix = some (at' (.str s))) (hu : P.underlying t = some (.map kt et)) (hk : keyD (P.underlying kt) (.str s) = true) (hz : zeroOf P et = some (.at (.bool false))) (hg : H.get id = some (.map (ents l))) (hN : HoldsF l V)
    (ht : V s = true → K (at' (.bool true)) H) (hf : V s = false → K (at' (.bool false)) H) : opP P eqs (.lookup t x ix false) lk H K :=
  oLookB hx hi hu hk hz hg hN.1 (fun h => ht (by rw [← hN.2]; exact h)) (fun h => hf (by rw [← hN.2]; exact h))
end

theorem resX_ok (e : Exp) (d : Nat) (cs : List AT) (V A : List UInt8 → Bool) (idv mv ida ma : Nat) (ev ea : Ents) (H L : Heap) (hL : LX L e cs) (hv : SetIn H idv mv ev) (hV : HoldsF ev V) (ha : SetIn H ida ma ea) (hA : HoldsF ea A) : Sim Try.prog 40 [.one (.agg cs), at' (.int .i64 d), at' (.ptr (some (idv, 0))), at' (.ptr (some (ida, 0)))] H (fun u G => u = at' (.bool (okX V A e)) ∧ G = H) := by
 obtain ⟨p, rfl, hk⟩ := hL.out
 refine Sim.trim ?_
 refine Sim.of_tri Try.func40 rfl ?_
 show TrP 27 _ _ _ _
 refine Tri.seq ?_
 refine tR ?_
 refine sO rfl rfl (oBox (cs := [_, _, _, _, _]) rfl rfl ?_)
 refine sV rfl rfl rfl ?_
 show TrP 27 _ _ _ _
 refine tH [(0, _), (2, _), (3, _), (4, _), (6, _)] ?_
 refine Tri.seq ?_
 refine tR ?_
 refine sO rfl rfl (oW (at' (.ptr (some (_, 0)))) rfl rfl ?_)
 refine sO rfl rfl (oLoad (x := .at _) rfl gG rfl ?_)
 refine sO rfl rfl (oNE rfl (fun h9 => ?_) (fun h9 => ?_))
 ·
  refine sV rfl rfl rfl ?_
  iterate 4 refine sN rfl rfl ?_
  iterate 2 refine sV rfl rfl rfl ?_
  refine sO rfl rfl (oW (at' (.ptr (some (_, 0)))) rfl rfl ?_)
  refine sO rfl rfl (oLoad (x := .at _) rfl gG rfl ?_)
  refine sO rfl rfl (oNE rfl (fun h19 => ?_) (fun h19 => ?_))
  ·
   refine sV rfl rfl rfl ?_
   iterate 4 refine sN rfl rfl ?_
   iterate 3 refine sV rfl rfl rfl ?_
   show TrP 27 _ _ _ _
   refine tH [(0, _), (2, _), (3, _), (4, _), (6, _)] ?_
   refine Tri.ret ?_
   refine ⟨trivial, _, rfl, ?_⟩
   refine ⟨kZ, rfl, congrArg bo_ ?_⟩
   clear hL hv hV ha hA hk
   unfold okX
   simp [*] <;> omega
  ·
   refine sV rfl rfl rfl ?_
   refine sO rfl rfl (oLoad (x := .at (.map (some _))) rfl (by repeat (first | assumption | exact hv.1 | exact hv.2 | exact ha.1 | exact ha.2 | exact hf.1 | exact hf.2 | exact Heap.push_new | exact Heap.set_newl lL | refine Heap.push_old ?_ | refine Heap.set_old ?_ (by first | assumption | exact hv.1 | exact hv.2 | exact ha.1 | exact ha.2 | exact hf.1 | exact hf.2 | omega | (simp only [Heap.n_push, Heap.n_set]; omega)) lL)) rfl ?_)
   refine sO rfl rfl (oW (at' (.ptr (some (_, 2)))) rfl rfl ?_)
   refine sO rfl rfl (oLoad (x := .at _) rfl gG rfl ?_)
   refine sO rfl rfl (oLookF rfl rfl rfl rfl rfl (by repeat (first | assumption | exact hv.1 | exact hv.2 | exact ha.1 | exact ha.2 | exact hf.1 | exact hf.2 | exact Heap.push_new | exact Heap.set_newl lL | refine Heap.push_old ?_ | refine Heap.set_old ?_ (by first | assumption | exact hv.1 | exact hv.2 | exact ha.1 | exact ha.2 | exact hf.1 | exact hf.2 | omega | (simp only [Heap.n_push, Heap.n_set]; omega)) lL)) hA (fun h24 => ?_) (fun h24 => ?_))
   ·
    iterate 3 refine sV rfl rfl rfl ?_
    show TrP 27 _ _ _ _
    refine tH [(0, _), (2, _), (3, _), (4, _), (6, _)] ?_
    refine Tri.ret ?_
    refine ⟨trivial, _, rfl, ?_⟩
    refine ⟨kZ, rfl, congrArg bo_ ?_⟩
    clear hL hv hV ha hA hk
    unfold okX
    simp [*] <;> omega
   ·
    iterate 3 refine sV rfl rfl rfl ?_
    show TrP 27 _ _ _ _
    refine tH [(0, _), (2, _), (3, _), (4, _), (6, _)] ?_
    refine Tri.ret ?_
    refine ⟨trivial, _, rfl, ?_⟩
    refine ⟨kZ, rfl, congrArg bo_ ?_⟩
    clear hL hv hV ha hA hk
    unfold okX
    simp [*] <;> omega
 ·
  refine sV rfl rfl rfl ?_
  refine sO rfl rfl (oLoad (x := .at (.map (some _))) rfl (by repeat (first | assumption | exact hv.1 | exact hv.2 | exact ha.1 | exact ha.2 | exact hf.1 | exact hf.2 | exact Heap.push_new | exact Heap.set_newl lL | refine Heap.push_old ?_ | refine Heap.set_old ?_ (by first | assumption | exact hv.1 | exact hv.2 | exact ha.1 | exact ha.2 | exact hf.1 | exact hf.2 | omega | (simp only [Heap.n_push, Heap.n_set]; omega)) lL)) rfl ?_)
  refine sO rfl rfl (oW (at' (.ptr (some (_, 2)))) rfl rfl ?_)
  refine sO rfl rfl (oLoad (x := .at _) rfl gG rfl ?_)
  refine sO rfl rfl (oLookF rfl rfl rfl rfl rfl (by repeat (first | assumption | exact hv.1 | exact hv.2 | exact ha.1 | exact ha.2 | exact hf.1 | exact hf.2 | exact Heap.push_new | exact Heap.set_newl lL | refine Heap.push_old ?_ | refine Heap.set_old ?_ (by first | assumption | exact hv.1 | exact hv.2 | exact ha.1 | exact ha.2 | exact hf.1 | exact hf.2 | omega | (simp only [Heap.n_push, Heap.n_set]; omega)) lL)) hV (fun h14 => ?_) (fun h14 => ?_))
  ·
   iterate 2 refine sV rfl rfl rfl ?_
   refine sO rfl rfl (oW (at' (.ptr (some (_, 0)))) rfl rfl ?_)
   refine sO rfl rfl (oLoad (x := .at _) rfl gG rfl ?_)
   refine sO rfl rfl (oNE rfl (fun h19 => ?_) (fun h19 => ?_))
   ·
    refine sV rfl rfl rfl ?_
    iterate 4 refine sN rfl rfl ?_
    iterate 3 refine sV rfl rfl rfl ?_
    show TrP 27 _ _ _ _
    refine tH [(0, _), (2, _), (3, _), (4, _), (6, _)] ?_
    refine Tri.ret ?_
    refine ⟨trivial, _, rfl, ?_⟩
    refine ⟨kZ, rfl, congrArg bo_ ?_⟩
    clear hL hv hV ha hA hk
    unfold okX
    simp [*] <;> omega
   ·
    refine sV rfl rfl rfl ?_
    refine sO rfl rfl (oLoad (x := .at (.map (some _))) rfl (by repeat (first | assumption | exact hv.1 | exact hv.2 | exact ha.1 | exact ha.2 | exact hf.1 | exact hf.2 | exact Heap.push_new | exact Heap.set_newl lL | refine Heap.push_old ?_ | refine Heap.set_old ?_ (by first | assumption | exact hv.1 | exact hv.2 | exact ha.1 | exact ha.2 | exact hf.1 | exact hf.2 | omega | (simp only [Heap.n_push, Heap.n_set]; omega)) lL)) rfl ?_)
    refine sO rfl rfl (oW (at' (.ptr (some (_, 2)))) rfl rfl ?_)
    refine sO rfl rfl (oLoad (x := .at _) rfl gG rfl ?_)
    refine sO rfl rfl (oLookF rfl rfl rfl rfl rfl (by repeat (first | assumption | exact hv.1 | exact hv.2 | exact ha.1 | exact ha.2 | exact hf.1 | exact hf.2 | exact Heap.push_new | exact Heap.set_newl lL | refine Heap.push_old ?_ | refine Heap.set_old ?_ (by first | assumption | exact hv.1 | exact hv.2 | exact ha.1 | exact ha.2 | exact hf.1 | exact hf.2 | omega | (simp only [Heap.n_push, Heap.n_set]; omega)) lL)) hA (fun h24 => ?_) (fun h24 => ?_))
    ·
     iterate 3 refine sV rfl rfl rfl ?_
     show TrP 27 _ _ _ _
     refine tH [(0, _), (2, _), (3, _), (4, _), (6, _)] ?_
     refine Tri.ret ?_
     refine ⟨trivial, _, rfl, ?_⟩
     refine ⟨kZ, rfl, congrArg bo_ ?_⟩
     clear hL hv hV ha hA hk
     unfold okX
     simp [*] <;> omega
    ·
     iterate 3 refine sV rfl rfl rfl ?_
     show TrP 27 _ _ _ _
     refine tH [(0, _), (2, _), (3, _), (4, _), (6, _)] ?_
     refine Tri.ret ?_
     refine ⟨trivial, _, rfl, ?_⟩
     refine ⟨kZ, rfl, congrArg bo_ ?_⟩
     clear hL hv hV ha hA hk
     unfold okX
     simp [*] <;> omega
  ·
   iterate 2 refine sV rfl rfl rfl ?_
   iterate 9 refine sN rfl rfl ?_
   iterate 2 refine sV rfl rfl rfl ?_
   show TrP 27 _ _ _ _
   refine tH [(0, _), (2, _), (3, _), (4, _), (6, _)] ?_
   refine Tri.ret ?_
   refine ⟨trivial, _, rfl, ?_⟩
   refine ⟨kZ, rfl, congrArg bo_ ?_⟩
   clear hL hv hV ha hA hk
   unfold okX
   simp [*] <;> omega
theorem cloV (V A : List UInt8 → Bool) {idv mv ida ma : Nat} {ev ea : Ents} {H : Heap} (hv : SetIn H idv mv ev) (hV : HoldsF ev V) (ha : SetIn H ida ma ea) (hA : HoldsF ea A) : Clo LX htE H 40 [(idv, 0), (ida, 0)] [] (fun (_ : Unit) G => Kp [] H G) (stepV V A) :=
  ⟨fnOk_of Try.func40 (by decide) rfl, fun _ _ _ h k => h.trans0 k, fun _ _ h => h, fun _ _ _ i hi => (by cases hi), fun s a d G cs h hr _ => (resX_ok a d cs V A idv mv ida ma ev ea G H hr (hv.kp h) hV (ha.kp h) hA).mono fun u G' ⟨h1, h2⟩ => ⟨h1, fun _ => (by rw [h2]; exact h), by rw [h2]; exact Kp.refl⟩⟩

theorem resS_ok (x : Stm) (d : Nat) (w : Int) (cs : List AT) (V A : List UInt8 → Bool) (idv mv ida ma : Nat) (ev ea : Ents) (F : List UInt8 → Option Nat) (idf mf idw : Nat) (ef : Ents) (H L : Heap) (hL : LM L x cs) (hv : SetIn H idv mv ev) (hV : HoldsF ev V) (ha : SetIn H ida ma ea) (hA : HoldsF ea A) (hf1 : H.get idf = some (.cells 77 1 [.map (some mf)])) (hf2 : H.get mf = some (.map (ents ef))) (hF : HoldsN ef F) (hw : H.get idw = some (.cells 33 1 [.int .i64 w])) (hne : idv ≠ idw ∧ mv ≠ idw) : Sim Try.prog 41 [.one (.agg cs), at' (.int .i64 d), at' (.ptr (some (idv, 0))), at' (.ptr (some (ida, 0))), at' (.ptr (some (idf, 0))), at' (.ptr (some (idw, 0)))] H (fun u G => u = at' (.bool (stepR V A F w (x, d)).1) ∧ G.get idw = some (.cells 33 1 [.int .i64 (stepR V A F w (x, d)).2]) ∧ Kp [idw] H G) := by
 obtain ⟨a1, a2, a3, a4, a5, na, b1, b2, b3, b4, b5, nb, pa, pt, pe, rfl, hsub, hval, hargs, hthn, hels⟩ := hL.out
 have hwl := Heap.get_lt hw
 have hvl := Heap.get_lt hv.1
 have hvl2 := Heap.get_lt hv.2
 refine Sim.of_tri Try.func41 rfl ?_
 show TrP 49 _ _ _ _
 refine Tri.seq ?_
 refine tR ?_
 refine sO rfl rfl (oBox (cs := [_, _, _, _, _, _, _, _, _, _, _, _, _, _, _, _, _]) rfl rfl ?_)
 refine sV rfl rfl rfl ?_
 show TrP 49 _ _ _ _
 refine tH [(0, _), (2, _), (3, _), (4, _), (5, _), (6, _), (8, _)] ?_
 refine Tri.seq ?_
 refine Tri.seq ?_
 refine tR ?_
 refine sO rfl rfl (oW (at' (.ptr (some (_, 0)))) rfl rfl ?_)
 refine sO rfl rfl (oLoad (x := .at _) rfl gG rfl ?_)
 show TrP 49 _ _ _ _
 refine tH [(0, _), (2, _), (3, _), (4, _), (5, _), (6, _), (8, _), (12, _)] ?_
 refine Tri.block ?_
 refine Tri.seq ?_
 refine tR ?_
 refine sO rfl rfl (oE rfl (fun h14 => ?_) (fun h14 => ?_))
 ·
  refine sV rfl rfl rfl ?_
  show TrP 49 _ _ _ _
  refine tH [(0, _), (2, _), (3, _), (4, _), (5, _), (6, _), (8, _), (12, _), (13, _)] ?_
  refine tT rfl ?_
  refine Tri.seq ?_
  refine tR ?_
  refine sO rfl rfl (oLoad (x := .at (.map (some _))) rfl (by repeat (first | assumption | exact hv.1 | exact hv.2 | exact ha.1 | exact ha.2 | exact hf.1 | exact hf.2 | exact Heap.push_new | exact Heap.set_newl lL | refine Heap.push_old ?_ | refine Heap.set_old ?_ (by first | assumption | exact hv.1 | exact hv.2 | exact ha.1 | exact ha.2 | exact hf.1 | exact hf.2 | omega | (simp only [Heap.n_push, Heap.n_set]; omega)) lL)) rfl ?_)
  refine sO rfl rfl (oW (at' (.ptr (some (_, 1)))) rfl rfl ?_)
  refine sO rfl rfl (oLoad (x := .at _) rfl gG rfl ?_)
  refine sO rfl rfl (oLookF rfl rfl rfl rfl rfl (by repeat (first | assumption | exact hv.1 | exact hv.2 | exact ha.1 | exact ha.2 | exact hf.1 | exact hf.2 | exact Heap.push_new | exact Heap.set_newl lL | refine Heap.push_old ?_ | refine Heap.set_old ?_ (by first | assumption | exact hv.1 | exact hv.2 | exact ha.1 | exact ha.2 | exact hf.1 | exact hf.2 | omega | (simp only [Heap.n_push, Heap.n_set]; omega)) lL)) hV (fun h18 => ?_) (fun h18 => ?_))
  ·
   refine sV rfl rfl rfl ?_
   show TrP 49 _ _ _ _
   refine tH [(0, _), (2, _), (3, _), (4, _), (5, _), (6, _), (8, _), (12, _), (13, _)] ?_
   refine Tri.ret ?_
   refine ⟨trivial, _, rfl, ?_⟩
   first
     | rw [stepR_1 (by omega)]
     | rw [stepR_2 (by omega)]
     | rw [stepR_6n (by omega) (by assumption)]
     | (rw [stepR_6s (by omega) (by assumption)]; first | rw [if_pos h40] | rw [if_neg (fun h => h h40)])
     | rw [stepR_0 (by omega) (by omega) (by omega)]
   refine ⟨congrArg bo_ (by first | rfl | (symm; assumption)), gG, kQ⟩
  ·
   refine sV rfl rfl rfl ?_
   show TrP 49 _ _ _ _
   refine tH [(0, _), (2, _), (3, _), (4, _), (5, _), (6, _), (8, _), (12, _), (13, _)] ?_
   refine Tri.ret ?_
   refine ⟨trivial, _, rfl, ?_⟩
   first
     | rw [stepR_1 (by omega)]
     | rw [stepR_2 (by omega)]
     | rw [stepR_6n (by omega) (by assumption)]
     | (rw [stepR_6s (by omega) (by assumption)]; first | rw [if_pos h40] | rw [if_neg (fun h => h h40)])
     | rw [stepR_0 (by omega) (by omega) (by omega)]
   refine ⟨congrArg bo_ (by first | rfl | (symm; assumption)), gG, kQ⟩
 ·
  refine sV rfl rfl rfl ?_
  show TrP 49 _ _ _ _
  refine tH [(0, _), (2, _), (3, _), (4, _), (5, _), (6, _), (8, _), (12, _), (13, _)] ?_
  refine tF rfl ?_
  refine Tri.seq ?_
  refine tR ?_
  refine sO rfl rfl (oE rfl (fun h20 => ?_) (fun h20 => ?_))
  ·
   refine sV rfl rfl rfl ?_
   show TrP 49 _ _ _ _
   refine tH [(0, _), (2, _), (3, _), (4, _), (5, _), (6, _), (8, _), (12, _), (13, _), (19, _)] ?_
   refine tT rfl ?_
   refine Tri.seq ?_
   refine tR ?_
   refine sO rfl rfl (oLoad (x := .at (.map (some _))) rfl (by repeat (first | assumption | exact hv.1 | exact hv.2 | exact ha.1 | exact ha.2 | exact hf.1 | exact hf.2 | exact Heap.push_new | exact Heap.set_newl lL | refine Heap.push_old ?_ | refine Heap.set_old ?_ (by first | assumption | exact hv.1 | exact hv.2 | exact ha.1 | exact ha.2 | exact hf.1 | exact hf.2 | omega | (simp only [Heap.n_push, Heap.n_set]; omega)) lL)) rfl ?_)
   refine sO rfl rfl (oW (at' (.ptr (some (_, 1)))) rfl rfl ?_)
   refine sO rfl rfl (oLoad (x := .at _) rfl gG rfl ?_)
   refine sO rfl rfl (oLookF rfl rfl rfl rfl rfl (by repeat (first | assumption | exact hv.1 | exact hv.2 | exact ha.1 | exact ha.2 | exact hf.1 | exact hf.2 | exact Heap.push_new | exact Heap.set_newl lL | refine Heap.push_old ?_ | refine Heap.set_old ?_ (by first | assumption | exact hv.1 | exact hv.2 | exact ha.1 | exact ha.2 | exact hf.1 | exact hf.2 | omega | (simp only [Heap.n_push, Heap.n_set]; omega)) lL)) hA (fun h24 => ?_) (fun h24 => ?_))
   ·
    refine sV rfl rfl rfl ?_
    show TrP 49 _ _ _ _
    refine tH [(0, _), (2, _), (3, _), (4, _), (5, _), (6, _), (8, _), (12, _), (13, _), (19, _)] ?_
    refine Tri.ret ?_
    refine ⟨trivial, _, rfl, ?_⟩
    first
      | rw [stepR_1 (by omega)]
      | rw [stepR_2 (by omega)]
      | rw [stepR_6n (by omega) (by assumption)]
      | (rw [stepR_6s (by omega) (by assumption)]; first | rw [if_pos h40] | rw [if_neg (fun h => h h40)])
      | rw [stepR_0 (by omega) (by omega) (by omega)]
    refine ⟨congrArg bo_ (by first | rfl | (symm; assumption)), gG, kQ⟩
   ·
    refine sV rfl rfl rfl ?_
    show TrP 49 _ _ _ _
    refine tH [(0, _), (2, _), (3, _), (4, _), (5, _), (6, _), (8, _), (12, _), (13, _), (19, _)] ?_
    refine Tri.ret ?_
    refine ⟨trivial, _, rfl, ?_⟩
    first
      | rw [stepR_1 (by omega)]
      | rw [stepR_2 (by omega)]
      | rw [stepR_6n (by omega) (by assumption)]
      | (rw [stepR_6s (by omega) (by assumption)]; first | rw [if_pos h40] | rw [if_neg (fun h => h h40)])
      | rw [stepR_0 (by omega) (by omega) (by omega)]
    refine ⟨congrArg bo_ (by first | rfl | (symm; assumption)), gG, kQ⟩
  ·
   refine sV rfl rfl rfl ?_
   show TrP 49 _ _ _ _
   refine tH [(0, _), (2, _), (3, _), (4, _), (5, _), (6, _), (8, _), (12, _), (13, _), (19, _)] ?_
   refine tF rfl ?_
   refine Tri.seq ?_
   refine tR ?_
   refine sO rfl rfl (oE rfl (fun h26 => ?_) (fun h26 => ?_))
   ·
    refine sV rfl rfl rfl ?_
    show TrP 49 _ _ _ _
    refine tH [(0, _), (2, _), (3, _), (4, _), (5, _), (6, _), (8, _), (12, _), (13, _), (19, _), (25, _)] ?_
    refine tT rfl ?_
    refine Tri.seq ?_
    refine tR ?_
    refine sO rfl rfl (oLoad (x := .at (.map (some _))) rfl (by repeat (first | assumption | exact hv.1 | exact hv.2 | exact ha.1 | exact ha.2 | exact hf.1 | exact hf.2 | exact Heap.push_new | exact Heap.set_newl lL | refine Heap.push_old ?_ | refine Heap.set_old ?_ (by first | assumption | exact hv.1 | exact hv.2 | exact ha.1 | exact ha.2 | exact hf.1 | exact hf.2 | omega | (simp only [Heap.n_push, Heap.n_set]; omega)) lL)) rfl ?_)
    refine sO rfl rfl (oW (at' (.ptr (some (_, 2)))) rfl rfl ?_)
    refine sO rfl rfl (oLoad (x := .at _) rfl gG rfl ?_)
    refine sO rfl rfl (oLookN rfl rfl rfl rfl rfl (by repeat (first | assumption | exact hv.1 | exact hv.2 | exact ha.1 | exact ha.2 | exact hf.1 | exact hf.2 | exact Heap.push_new | exact Heap.set_newl lL | refine Heap.push_old ?_ | refine Heap.set_old ?_ (by first | assumption | exact hv.1 | exact hv.2 | exact ha.1 | exact ha.2 | exact hf.1 | exact hf.2 | omega | (simp only [Heap.n_push, Heap.n_set]; omega)) lL)) hF (fun n31 h31 => ?_) (fun h31 => ?_))
    ·
     iterate 5 refine sV rfl rfl rfl ?_
     show TrP 49 _ _ _ _
     refine tH [(0, _), (2, _), (3, _), (4, _), (5, _), (6, _), (8, _), (9, _), (10, _), (12, _), (13, _), (19, _), (25, _)] ?_
     refine Tri.seq ?_
     refine Tri.seq ?_
     refine tR ?_
     iterate 3 refine sV rfl rfl rfl ?_
     refine sO rfl rfl (oW (at' (.ptr (some (_, 14)))) rfl rfl ?_)
     refine sO rfl rfl (oLoad (x := .at _) rfl gG rfl ?_)
     refine sV rfl rfl rfl ?_
     refine sO rfl rfl (oNE rfl (fun h40 => ?_) (fun h40 => ?_))
     ·
      refine sV rfl rfl rfl ?_
      show TrP 49 _ _ _ _
      refine tH [(0, _), (2, _), (3, _), (4, _), (5, _), (6, _), (8, _), (9, _), (10, _), (12, _), (13, _), (19, _), (25, _), (41, _)] ?_
      refine tT rfl ?_
      refine tR ?_
      refine sO rfl rfl (oStore (n := 1) (cs' := _) rfl rfl rfl gG rfl (Nat.le_of_ble_eq_true rfl) rfl rfl ?_)
      show TrP 49 _ _ _ _
      refine tH [(0, _), (2, _), (3, _), (4, _), (5, _), (6, _), (8, _), (9, _), (10, _), (12, _), (13, _), (19, _), (25, _), (41, _)] ?_
      refine Tri.seq ?_
      refine tR ?_
      iterate 2 refine sV rfl rfl rfl ?_
      refine sO rfl rfl (oLoad (x := .at (.map (some _))) rfl (by repeat (first | assumption | exact hv.1 | exact hv.2 | exact ha.1 | exact ha.2 | exact hf.1 | exact hf.2 | exact Heap.push_new | exact Heap.set_newl lL | refine Heap.push_old ?_ | refine Heap.set_old ?_ (by first | assumption | exact hv.1 | exact hv.2 | exact ha.1 | exact ha.2 | exact hf.1 | exact hf.2 | omega | (simp only [Heap.n_push, Heap.n_set]; omega)) lL)) rfl ?_)
      refine sO rfl rfl (oW (at' (.ptr (some (_, 1)))) rfl rfl ?_)
      refine sO rfl rfl (oLoad (x := .at _) rfl gG rfl ?_)
      refine sO rfl rfl (oLookF rfl rfl rfl rfl rfl (by repeat (first | assumption | exact hv.1 | exact hv.2 | exact ha.1 | exact ha.2 | exact hf.1 | exact hf.2 | exact Heap.push_new | exact Heap.set_newl lL | refine Heap.push_old ?_ | refine Heap.set_old ?_ (by first | assumption | exact hv.1 | exact hv.2 | exact ha.1 | exact ha.2 | exact hf.1 | exact hf.2 | omega | (simp only [Heap.n_push, Heap.n_set]; omega)) lL)) hV (fun h47 => ?_) (fun h47 => ?_))
      ·
       iterate 2 refine sV rfl rfl rfl ?_
       show TrP 49 _ _ _ _
       refine tH [(0, _), (2, _), (3, _), (4, _), (5, _), (6, _), (8, _), (9, _), (10, _), (12, _), (13, _), (19, _), (25, _), (41, _)] ?_
       refine Tri.ret ?_
       refine ⟨trivial, _, rfl, ?_⟩
       first
         | rw [stepR_1 (by omega)]
         | rw [stepR_2 (by omega)]
         | rw [stepR_6n (by omega) (by assumption)]
         | (rw [stepR_6s (by omega) (by assumption)]; first | rw [if_pos h40] | rw [if_neg (fun h => h h40)])
         | rw [stepR_0 (by omega) (by omega) (by omega)]
       refine ⟨congrArg bo_ (by first | rfl | (symm; assumption)), gG, kQ⟩
      ·
       iterate 2 refine sV rfl rfl rfl ?_
       show TrP 49 _ _ _ _
       refine tH [(0, _), (2, _), (3, _), (4, _), (5, _), (6, _), (8, _), (9, _), (10, _), (12, _), (13, _), (19, _), (25, _), (41, _)] ?_
       refine Tri.ret ?_
       refine ⟨trivial, _, rfl, ?_⟩
       first
         | rw [stepR_1 (by omega)]
         | rw [stepR_2 (by omega)]
         | rw [stepR_6n (by omega) (by assumption)]
         | (rw [stepR_6s (by omega) (by assumption)]; first | rw [if_pos h40] | rw [if_neg (fun h => h h40)])
         | rw [stepR_0 (by omega) (by omega) (by omega)]
       refine ⟨congrArg bo_ (by first | rfl | (symm; assumption)), gG, kQ⟩
     ·
      refine sV rfl rfl rfl ?_
      show TrP 49 _ _ _ _
      refine tH [(0, _), (2, _), (3, _), (4, _), (5, _), (6, _), (8, _), (9, _), (10, _), (12, _), (13, _), (19, _), (25, _), (41, _)] ?_
      refine tF rfl ?_
      refine Tri.skip ?_
      show TrP 49 _ _ _ _
      refine tH [(0, _), (2, _), (3, _), (4, _), (5, _), (6, _), (8, _), (9, _), (10, _), (12, _), (13, _), (19, _), (25, _), (41, _)] ?_
      refine Tri.seq ?_
      refine tR ?_
      iterate 2 refine sV rfl rfl rfl ?_
      refine sO rfl rfl (oLoad (x := .at (.map (some _))) rfl (by repeat (first | assumption | exact hv.1 | exact hv.2 | exact ha.1 | exact ha.2 | exact hf.1 | exact hf.2 | exact Heap.push_new | exact Heap.set_newl lL | refine Heap.push_old ?_ | refine Heap.set_old ?_ (by first | assumption | exact hv.1 | exact hv.2 | exact ha.1 | exact ha.2 | exact hf.1 | exact hf.2 | omega | (simp only [Heap.n_push, Heap.n_set]; omega)) lL)) rfl ?_)
      refine sO rfl rfl (oW (at' (.ptr (some (_, 1)))) rfl rfl ?_)
      refine sO rfl rfl (oLoad (x := .at _) rfl gG rfl ?_)
      refine sO rfl rfl (oLookF rfl rfl rfl rfl rfl (by repeat (first | assumption | exact hv.1 | exact hv.2 | exact ha.1 | exact ha.2 | exact hf.1 | exact hf.2 | exact Heap.push_new | exact Heap.set_newl lL | refine Heap.push_old ?_ | refine Heap.set_old ?_ (by first | assumption | exact hv.1 | exact hv.2 | exact ha.1 | exact ha.2 | exact hf.1 | exact hf.2 | omega | (simp only [Heap.n_push, Heap.n_set]; omega)) lL)) hV (fun h47 => ?_) (fun h47 => ?_))
      ·
       iterate 2 refine sV rfl rfl rfl ?_
       show TrP 49 _ _ _ _
       refine tH [(0, _), (2, _), (3, _), (4, _), (5, _), (6, _), (8, _), (9, _), (10, _), (12, _), (13, _), (19, _), (25, _), (41, _)] ?_
       refine Tri.ret ?_
       refine ⟨trivial, _, rfl, ?_⟩
       first
         | rw [stepR_1 (by omega)]
         | rw [stepR_2 (by omega)]
         | rw [stepR_6n (by omega) (by assumption)]
         | (rw [stepR_6s (by omega) (by assumption)]; first | rw [if_pos h40] | rw [if_neg (fun h => h h40)])
         | rw [stepR_0 (by omega) (by omega) (by omega)]
       refine ⟨congrArg bo_ (by first | rfl | (symm; assumption)), gG, kQ⟩
      ·
       iterate 2 refine sV rfl rfl rfl ?_
       show TrP 49 _ _ _ _
       refine tH [(0, _), (2, _), (3, _), (4, _), (5, _), (6, _), (8, _), (9, _), (10, _), (12, _), (13, _), (19, _), (25, _), (41, _)] ?_
       refine Tri.ret ?_
       refine ⟨trivial, _, rfl, ?_⟩
       first
         | rw [stepR_1 (by omega)]
         | rw [stepR_2 (by omega)]
         | rw [stepR_6n (by omega) (by assumption)]
         | (rw [stepR_6s (by omega) (by assumption)]; first | rw [if_pos h40] | rw [if_neg (fun h => h h40)])
         | rw [stepR_0 (by omega) (by omega) (by omega)]
       refine ⟨congrArg bo_ (by first | rfl | (symm; assumption)), gG, kQ⟩
    ·
     iterate 5 refine sV rfl rfl rfl ?_
     show TrP 49 _ _ _ _
     refine tH [(0, _), (2, _), (3, _), (4, _), (5, _), (6, _), (8, _), (9, _), (10, _), (12, _), (13, _), (19, _), (25, _)] ?_
     refine Tri.seq ?_
     refine Tri.seq ?_
     refine tR ?_
     iterate 2 refine sV rfl rfl rfl ?_
     iterate 5 refine sN rfl rfl ?_
     refine sV rfl rfl rfl ?_
     show TrP 49 _ _ _ _
     refine tH [(0, _), (2, _), (3, _), (4, _), (5, _), (6, _), (8, _), (9, _), (10, _), (12, _), (13, _), (19, _), (25, _), (41, _)] ?_
     refine tF rfl ?_
     refine Tri.skip ?_
     show TrP 49 _ _ _ _
     refine tH [(0, _), (2, _), (3, _), (4, _), (5, _), (6, _), (8, _), (9, _), (10, _), (12, _), (13, _), (19, _), (25, _), (41, _)] ?_
     refine Tri.seq ?_
     refine tR ?_
     iterate 2 refine sV rfl rfl rfl ?_
     iterate 4 refine sN rfl rfl ?_
     iterate 2 refine sV rfl rfl rfl ?_
     show TrP 49 _ _ _ _
     refine tH [(0, _), (2, _), (3, _), (4, _), (5, _), (6, _), (8, _), (9, _), (10, _), (12, _), (13, _), (19, _), (25, _), (41, _)] ?_
     refine Tri.ret ?_
     refine ⟨trivial, _, rfl, ?_⟩
     first
       | rw [stepR_1 (by omega)]
       | rw [stepR_2 (by omega)]
       | rw [stepR_6n (by omega) (by assumption)]
       | (rw [stepR_6s (by omega) (by assumption)]; first | rw [if_pos h40] | rw [if_neg (fun h => h h40)])
       | rw [stepR_0 (by omega) (by omega) (by omega)]
     refine ⟨congrArg bo_ (by first | rfl | (symm; assumption)), gG, kQ⟩
   ·
    refine sV rfl rfl rfl ?_
    show TrP 49 _ _ _ _
    refine tH [(0, _), (2, _), (3, _), (4, _), (5, _), (6, _), (8, _), (12, _), (13, _), (19, _), (25, _)] ?_
    refine tF rfl ?_
    refine Tri.skip ?_
    show TrP 49 _ _ _ _
    refine tH [(0, _), (2, _), (3, _), (4, _), (5, _), (6, _), (8, _), (12, _), (13, _), (19, _), (25, _)] ?_
    refine Tri.seq ?_
    refine tR ?_
    refine sV rfl rfl rfl ?_
    show TrP 49 _ _ _ _
    refine tH [(0, _), (2, _), (3, _), (4, _), (5, _), (6, _), (8, _), (12, _), (13, _), (19, _), (25, _)] ?_
    refine Tri.ret ?_
    refine ⟨trivial, _, rfl, ?_⟩
    first
      | rw [stepR_1 (by omega)]
      | rw [stepR_2 (by omega)]
      | rw [stepR_6n (by omega) (by assumption)]
      | (rw [stepR_6s (by omega) (by assumption)]; first | rw [if_pos h40] | rw [if_neg (fun h => h h40)])
      | rw [stepR_0 (by omega) (by omega) (by omega)]
    refine ⟨congrArg bo_ (by first | rfl | (symm; assumption)), gG, kQ⟩
theorem cloR (V A : List UInt8 → Bool) (F : List UInt8 → Option Nat) {idv mv ida ma idf mf idw : Nat} {ev ea ef : Ents} {H0 : Heap} (hV : HoldsF ev V) (ha : SetIn H0 ida ma ea) (hA : HoldsF ea A) (hf1 : H0.get idf = some (.cells 77 1 [.map (some mf)])) (hf2 : H0.get mf = some (.map (ents ef))) (hF : HoldsN ef F) (hn : H0.n ≤ idw) (hne : idv ≠ idw ∧ mv ≠ idw) :
    Clo LM htS H0 41 [(idv, 0), (ida, 0), (idf, 0), (idw, 0)] [idw] (fun (w : Int) G => Kp [] H0 G ∧ G.get idw = some (.cells 33 1 [.int .i64 w]) ∧ SetIn G idv mv ev) (stepR V A F) :=
  ⟨fnOk_of Try.func41 (by decide) rfl, fun s H H' ⟨h1, h2, h3⟩ k => ⟨h1.trans0 k, k.get h2 rfl, h3.kp k⟩, fun s H h => h.1,
   fun s H h i hi => by
    simp only [List.mem_cons, List.not_mem_nil, or_false] at hi
    subst hi
    exact Heap.get_lt h.2.1,
   fun s a d H cs ⟨h1, h2, h3⟩ hr _ => (resS_ok a d s cs V A idv mv ida ma ev ea F idf mf idw ef H H0 hr h3 hV (ha.kp h1) hA (h1.get hf1 rfl) (h1.get hf2 rfl) hF h2 hne).mono fun u G ⟨g1, g2, g3⟩ => ⟨g1, fun hb => by
    refine ⟨h1.trans g3 fun i hi => .inr ?_, g2, h3.kpo g3 hne.1 hne.2⟩
    simp only [List.mem_cons, List.not_mem_nil, or_false] at hi
    subst hi; exact hn, g3⟩⟩

/-- How many operands each function takes. -/
def arity (p : Pr) : List UInt8 → Option Nat := mpL (p.funcs.map fun f => (f.name, f.params.length))
def inA (p : Pr) (s : List UInt8) : Bool := decide (s ∈ [p.arrays.map Ar.name].flatten)
def inV (f : Fn1) (s : List UInt8) : Bool := decide (s ∈ [f.params, f.locals].flatten)
noncomputable def resF (p : Pr) (w : Int) (f : Fn1) : Bool × Int :=
  if (runF (stepV (inV f) (inA p)) () f).1 = true then runL (stepR (inV f) (inA p) (arity p)) w (preSl 0 f.body) else (false, w)
noncomputable def resP (p : Pr) : Int := if (runL (resF p) 0 p.funcs).1 = true then (runL (resF p) 0 p.funcs).2 else 3
theorem runL_snoc {A S : Type} {step : S → A → Bool × S} {s s1 : S} {l : List A} {j : Nat} {x : A} (h : runL step s (l.take j) = (true, s1)) (hx : l[j]? = some x) (h1 : (step s1 x).1 = true) : runL step s (l.take (j + 1)) = (true, (step s1 x).2) := by
  rw [List.take_add_one, hx, runL_app, h]
  simp [runL, h1]
theorem runL_stop {A S : Type} {step : S → A → Bool × S} {s s1 : S} {l : List A} {j : Nat} {x : A} (h : runL step s (l.take j) = (true, s1)) (hx : l[j]? = some x) (h1 : (step s1 x).1 = false) : (runL step s l).1 = false := by
  have e : l = l.take j ++ x :: l.drop (j + 1) := by rw [← drop_row hx, List.take_append_drop]
  rw [e, runL_app, h]
  simp [runL, h1]
theorem ar_snoc {p : Pr} {j : Nat} {f : Fn1} {es : Ents} (h : HoldsN es (mpL ((p.funcs.take j).map fun f => (f.name, f.params.length)))) (hf : p.funcs[j]? = some f) : HoldsN (upM es f.name (.at (.int .i64 f.params.length))) (mpL ((p.funcs.take (j + 1)).map fun f => (f.name, f.params.length))) := by
  intro s
  rw [List.take_add_one, hf, List.map_append]
  show _ = ((mpL (_ ++ [(f.name, f.params.length)]) s).map _)
  rw [mpL_snoc, lk_up]
  by_cases e : s = f.name
  · rw [if_pos e, if_pos e]; rfl
  · rw [if_neg e, if_neg e]; exact h s
theorem nm_at {p : Pr} {j : Nat} {f : Fn1} (hf : p.funcs[j]? = some f) : (p.funcs.map Fn1.name)[j]? = some f.name := by rw [List.getElem?_map, hf]; rfl

theorem resolve_ok (p : Pr) (cs : List AT) (H : Heap) (hL : LPr H p cs) (hlow : LowP p) (ha : p.arrays.length ≤ 4) (hf8 : p.funcs.length ≤ 8) : Sim Try.prog 17 [.one (.agg cs)] H (fun u G => u = at' (.int .i64 (resP p)) ∧ G = H) := by
 have hL0 := hL
 obtain ⟨pa, pf, rfl, hA, hF⟩ := hL
 obtain ⟨hlow1, hlow2, hlow3⟩ := hlow
 refine Sim.trim ?_
 refine Sim.of_tri Try.func17 rfl ?_
 show TrP 67 _ _ _ _
 refine Tri.seq ?_
 refine tR ?_
 refine sO rfl rfl (oBox (cs := [_, _]) rfl rfl ?_)
 refine sV rfl rfl rfl ?_
 show TrP 67 _ _ _ _
 refine tH [(0, _), (1, _), (2, _)] ?_
 refine Tri.seq ?_
 refine tR ?_
 refine sO rfl rfl (oLoad (x := .agg [_, _]) rfl gG rfl ?_)
 refine sO rfl rfl (oC rfl (fnOk_of Try.func37 (by decide) rfl) (declared_ok p _ _ (hL0.kp kP) ha hf8) ?_)
 rintro u G ⟨qa, qf, rfl, hqa, hqf, hk1⟩
 have hk2 : Kp [] H G := (Kp.push Kp.refl).trans0 hk1
 have hcell := hk1.get (Heap.push_new (H := H)) rfl
 have hGl := Heap.get_lt hcell
 iterate 5 refine sV rfl rfl rfl ?_
 show TrP 67 _ _ _ _
 refine tH [(0, _), (1, _), (2, _), (3, _), (4, _)] ?_
 refine Tri.seq ?_
 refine tR ?_
 refine sV rfl rfl rfl ?_
 refine sO rfl rfl (oBS1 (n := 1) rfl rfl rfl rfl rfl (by omega) (by omega) rfl ?_)
 refine sO rfl rfl (oC rfl (fnOk_of Try.func39 (by decide) rfl) (set_ok [p.arrays.map Ar.name] _ _ (row1 gG (lrw kP hqa)) (by simp) (by intro r hr; simp only [List.mem_cons, List.not_mem_nil, or_false] at hr; subst hr; rw [List.length_map]; omega)) ?_)
 rintro u G2 ⟨ma, ea, sa, rfl, hma1, hma2, hHa, hmema, hk3⟩
 have hkG : Kp [] G G2 := (Kp.push Kp.refl).trans0 hk3
 have hA2 : HoldsF ea (inA p) := hHa.f hmema
 have hcell2 := hkG.get hcell rfl
 have hG2 := hkG.n
 have hmal := Heap.get_lt hma2
 refine sV rfl rfl rfl ?_
 refine sO rfl rfl (oAlloc (cs := [.map none]) rfl rfl ?_)
 refine sO rfl rfl (oAlloc (cs := [.map none]) rfl rfl ?_)
 refine sO rfl rfl (oStore (n := 1) (cs' := [_]) rfl rfl rfl gG rfl (Nat.le_of_ble_eq_true rfl) rfl rfl ?_)
 refine sO rfl rfl (oStore (n := 1) (cs' := [_]) rfl rfl rfl gG rfl (Nat.le_of_ble_eq_true rfl) rfl rfl ?_)
 show TrP 67 _ _ _ _
 refine tH [(0, _), (1, _), (2, _), (3, _), (4, _), (5, _), (6, _)] ?_
 refine Tri.seq ?_
 refine Tri.seq ?_
 refine tR ?_
 iterate 3 refine sV rfl rfl rfl ?_
 show TrP 67 _ _ _ _
 refine tH [(0, _), (1, _), (2, _), (3, _), (4, _), (5, _), (6, _), (23, _), (24, _), (25, _)] ?_
 refine Tri.block ?_
 refine Tri.loop (fun k lk1 H1 => ∃ (j : Nat) (ef : Ents), k = p.funcs.length - j ∧ j ≤ p.funcs.length ∧ HoldsN ef (mpL ((p.funcs.take j).map fun f => (f.name, f.params.length))) ∧ Kp [] G H1 ∧ SetIn H1 (G2.n + 1) ma ea ∧ H1.get (G2.n + 2) = some (.cells 77 1 [.map (some G2.n)]) ∧ H1.get G2.n = some (.map (ents ef)) ∧ Has lk1 [(1, at' (.ptr (some (H.n, 0)))), (4, at' (.slice qf (p.funcs.map Fn1.name).length)), (5, at' (.ptr (some (G2.n + 1, 0)))), (6, at' (.ptr (some (G2.n + 2, 0)))), (23, at' (.slice qf (p.funcs.map Fn1.name).length)), (24, at' (.int .i64 (p.funcs.map Fn1.name).length)), (25, at' (.int .i64 j))]) (p.funcs.length) (⟨0, [], rfl, by omega, fun _ => rfl, hkG.trans0 kZ, ⟨gG, gG⟩, gG, gG, ⟨rfl, rfl, rfl, rfl, rfl, rfl, rfl, trivial⟩⟩) ?_
 rintro k4 lk4 H4 ⟨j, ef, hk4, hj, hN, hkp, hsA, hf1, hf2, hh⟩
 refine Tri.has hh ?_
 have hkpn := hkp.n
 have hml : (p.funcs.map Fn1.name).length = p.funcs.length := List.length_map ..
 have hc4 := hkp.get hcell rfl
 have hfl1 := Heap.get_lt hf1
 have hfl2 := Heap.get_lt hf2
 refine Tri.seq ?_
 refine tR ?_
 refine sO rfl rfl (oP rfl (fun h26 => ?_) (fun h26 => ?_))
 ·
  show TrP 67 _ _ _ _
  refine tH [(1, _), (4, _), (5, _), (6, _), (23, _), (24, _), (25, _), (26, _)] ?_
  refine Tri.seq ?_
  refine tT rfl ?_
  refine Tri.skip ?_
  show TrP 67 _ _ _ _
  refine tH [(1, _), (4, _), (5, _), (6, _), (23, _), (24, _), (25, _), (26, _)] ?_
  refine Tri.seq ?_
  refine Tri.block ?_
  refine Tri.seq ?_
  refine tR ?_
  refine sV rfl rfl rfl ?_
  obtain ⟨f, hf⟩ : ∃ f, p.funcs[j]? = some f := ⟨_, List.getElem?_eq_getElem (by omega)⟩
  obtain ⟨idn, on, Tn, kn, cn, rfl, hgn0, hlen, hcn⟩ := hqf.at (nm_at hf)
  have hgn := hkp.get hgn0 rfl
  obtain ⟨id, o, T, q, c, rfl, hg0, hle, hLf⟩ := hF.at hf
  have hg := (hk2.trans0 hkp).get hg0 rfl
  obtain ⟨pp, pl, pb, b1, b2, b3, b4, b5, nb, hcs, hpar, hloc, hbody, hval⟩ := hLf.out
  refine sO rfl rfl (oIA (z := 1) rfl rfl rfl rfl (by omega) ?_)
  refine sO rfl rfl (oLoad (x := .at (.str f.name)) rfl gG (part_one hcn rfl rfl rfl) ?_)
  iterate 2 refine sV rfl rfl rfl ?_
  show TrP 67 _ _ _ _
  refine tH [(1, _), (4, _), (5, _), (6, _), (7, _), (8, _), (23, _), (24, _), (25, _), (26, _)] ?_
  refine Tri.drawn1 mixed eqsOk (eqs := eqs) ⟨[0, 0, 0, 4, 0, 28, 60, 124, 252, 511], [0, 0, 0, 0, 0, 0, 0, 0, 0, 0], 1, [0, 1, 2, 3, 4, 5, 6, 7, 8, 9]⟩ (by decide +kernel) rfl ?_
  refine dR0 rfl rfl rfl rfl (op_load_at (x := .at (.map (some G2.n))) rfl gG rfl) ?_
  refine dL rfl rfl rfl rfl (oV rfl ?_)
  refine dL rfl rfl rfl rfl (oW (at' (.ptr (some (_, 1)))) rfl rfl ?_)
  refine dR0 rfl rfl rfl rfl (op_load_at (x := .at _) rfl gG rfl) ?_
  refine dL rfl rfl rfl rfl (oV rfl ?_)
  refine dL rfl rfl rfl rfl (oIA (z := 9) rfl rfl rfl rfl (by omega) ?_)
  refine dL rfl rfl rfl rfl (oW (at' (.ptr (some (_, _ + 1)))) rfl rfl ?_)
  refine dR0 rfl rfl rfl rfl (op_load_at (x := .at (.slice pp f.params.length)) rfl gG (part_cell 1 hcs (by omega) rfl rfl rfl rfl)) ?_
  refine dR0 rfl rfl rfl rfl rfl ?_
  refine dC0 (.drop rfl (.drop rfl (.drop rfl (.drop rfl .nil)))) rfl rfl rfl rfl (oMapUp rfl rfl rfl rfl rfl gG ?_)
  refine ⟨⟨.inl rfl, .inl rfl, .inl rfl, .inl rfl, trivial⟩, ?_⟩
  refine dE0 ?_
  show TrP 67 _ _ _ _
  refine tH [(1, _), (4, _), (5, _), (6, _), (7, _), (8, _), (23, _), (24, _), (25, _), (26, _)] ?_
  refine tR ?_
  refine sO rfl rfl (oAdd (m := 1) rfl (by omega) ?_)
  refine sV rfl rfl rfl ?_
  exact ⟨p.funcs.length - (j + 1), by omega, j + 1, _, rfl, by omega, ar_snoc hN hf, kP, ⟨(by repeat (first | assumption | exact hsA.1 | exact hsA.2 | exact hsV.1 | exact hsV.2 | exact Heap.push_new | exact Heap.set_newl lL | refine Heap.push_old ?_ | refine Heap.set_old ?_ (by first | assumption | exact hsA.1 | exact hsA.2 | exact hsV.1 | exact hsV.2 | omega | (simp only [Heap.n_push, Heap.n_set]; omega)) lL)), (by repeat (first | assumption | exact hsA.1 | exact hsA.2 | exact hsV.1 | exact hsV.2 | exact Heap.push_new | exact Heap.set_newl lL | refine Heap.push_old ?_ | refine Heap.set_old ?_ (by first | assumption | exact hsA.1 | exact hsA.2 | exact hsV.1 | exact hsV.2 | omega | (simp only [Heap.n_push, Heap.n_set]; omega)) lL))⟩, (by repeat (first | assumption | exact hsA.1 | exact hsA.2 | exact hsV.1 | exact hsV.2 | exact Heap.push_new | exact Heap.set_newl lL | refine Heap.push_old ?_ | refine Heap.set_old ?_ (by first | assumption | exact hsA.1 | exact hsA.2 | exact hsV.1 | exact hsV.2 | omega | (simp only [Heap.n_push, Heap.n_set]; omega)) lL)), (by repeat (first | assumption | exact hsA.1 | exact hsA.2 | exact hsV.1 | exact hsV.2 | exact Heap.push_new | exact Heap.set_newl lL | refine Heap.push_old ?_ | refine Heap.set_old ?_ (by first | assumption | exact hsA.1 | exact hsA.2 | exact hsV.1 | exact hsV.2 | omega | (simp only [Heap.n_push, Heap.n_set]; omega)) lL)), ⟨rfl, rfl, rfl, rfl, rfl, rfl, rfl, trivial⟩⟩
 ·
  show TrP 67 _ _ _ _
  refine tH [(1, _), (4, _), (5, _), (6, _), (23, _), (24, _), (25, _), (26, _)] ?_
  refine Tri.seq ?_
  refine tF rfl ?_
  refine Tri.exit ?_
  show TrP 67 _ _ _ _
  refine tH [(1, _), (4, _), (5, _), (6, _), (23, _), (24, _), (25, _), (26, _)] ?_
  refine Tri.seq ?_
  refine tR ?_
  refine sO rfl rfl (oAlloc (cs := [.int .i64 0]) rfl rfl ?_)
  refine sO rfl rfl (oStore (n := 1) (cs' := [_]) rfl rfl rfl gG rfl (Nat.le_of_ble_eq_true rfl) rfl rfl ?_)
  show TrP 67 _ _ _ _
  refine tH [(1, _), (4, _), (5, _), (6, _), (9, _), (23, _), (24, _), (25, _), (26, _)] ?_
  refine Tri.seq ?_
  refine Tri.seq ?_
  refine tR ?_
  rw [List.take_of_length_le (by omega)] at hN
  have hk4 := hk2.trans0 hkp
  have hk4n := hk4.n
  refine sO rfl rfl (oW (at' (.ptr (some (_, 0 + 1)))) rfl rfl ?_)
  refine sO rfl rfl (oLoad (x := .at _) rfl gG rfl ?_)
  iterate 2 refine sV rfl rfl rfl ?_
  show TrP 67 _ _ _ _
  refine tH [(1, _), (4, _), (5, _), (6, _), (9, _), (23, _), (24, _), (25, _), (26, _), (41, _), (42, _), (43, _)] ?_
  refine Tri.block ?_
  refine Tri.loop (fun k lk1 H1 => ∃ (j : Nat) (w : Int), k = p.funcs.length - j ∧ j ≤ p.funcs.length ∧ runL (resF p) 0 (p.funcs.take j) = (true, w) ∧ Kp [] H4 H1 ∧ H1.get H4.n = some (.cells 33 1 [.int .i64 w]) ∧ Has lk1 [(5, at' (.ptr (some (G2.n + 1, 0)))), (6, at' (.ptr (some (G2.n + 2, 0)))), (9, at' (.ptr (some (H4.n, 0)))), (41, at' (.slice pf p.funcs.length)), (42, at' (.int .i64 p.funcs.length)), (43, at' (.int .i64 j))]) (p.funcs.length) (⟨0, 0, rfl, by omega, rfl, kZ, gG, ⟨rfl, rfl, rfl, rfl, rfl, rfl, trivial⟩⟩) ?_
  rintro k10 lk10 H10 ⟨j, w, hk10, hj, hrun, hkp, hw, hh⟩
  refine Tri.has hh ?_
  have hkpn := hkp.n
  have hkH := hk4.trans0 hkp
  have hkHn := hkH.n
  have hwl := Heap.get_lt hw
  refine Tri.seq ?_
  refine tR ?_
  refine sO rfl rfl (oP rfl (fun h44 => ?_) (fun h44 => ?_))
  ·
   show TrP 67 _ _ _ _
   refine tH [(5, _), (6, _), (9, _), (41, _), (42, _), (43, _), (44, _)] ?_
   refine Tri.seq ?_
   refine tT rfl ?_
   refine Tri.skip ?_
   show TrP 67 _ _ _ _
   refine tH [(5, _), (6, _), (9, _), (41, _), (42, _), (43, _), (44, _)] ?_
   refine Tri.seq ?_
   refine Tri.block ?_
   refine Tri.seq ?_
   refine tR ?_
   obtain ⟨f, hf⟩ : ∃ f, p.funcs[j]? = some f := ⟨_, List.getElem?_eq_getElem (by omega)⟩
   obtain ⟨id, o, T, q, c, rfl, hg0, hle, hLf⟩ := hF.at hf
   have hg := (hk4.trans0 hkp).get hg0 rfl
   obtain ⟨pp, pl, pb, b1, b2, b3, b4, b5, nb, hcs, hpar, hloc, hbody, hval⟩ := hLf.out
   obtain ⟨hlowf, hv4, hv5⟩ := hlow3 f (List.mem_of_getElem? hf)
   have hLf2 := hLf
   rw [hcs] at hLf2
   have hlowf2 := hlowf
   obtain ⟨hv1, hv2, hv3⟩ := hlowf2
   refine sO rfl rfl (oIA (z := 9) rfl rfl rfl rfl (by omega) ?_)
   refine sO rfl rfl (oLoad (x := .agg [.str f.name, .slice pp f.params.length, .slice pl f.locals.length, .slice pb f.body.length, .int .i64 b1, .int .i64 b2, .str b3, .int .i64 b4, .slice b5 nb]) rfl gG (part_all hcs hle rfl rfl rfl) ?_)
   refine sO rfl rfl (oAlloc (cs := [.str [], .slice none 0, .slice none 0, .slice none 0, .int .i64 0, .int .i64 0, .str [], .int .i64 0, .slice none 0]) rfl rfl ?_)
   refine sO rfl rfl (oStore (n := 9) (cs' := [_, _, _, _, _, _, _, _, _]) rfl rfl rfl gG rfl (Nat.le_of_ble_eq_true rfl) rfl rfl ?_)
   show TrP 67 _ _ _ _
   refine tH [(5, _), (6, _), (9, _), (11, _), (41, _), (42, _), (43, _), (44, _)] ?_
   refine Tri.seq ?_
   refine tR ?_
   refine sO rfl rfl (oW (at' (.ptr (some (_, 1)))) rfl rfl ?_)
   refine sO rfl rfl (oLoad (x := .at _) rfl gG rfl ?_)
   refine sO rfl rfl (oW (at' (.ptr (some (_, 2)))) rfl rfl ?_)
   refine sO rfl rfl (oLoad (x := .at _) rfl gG rfl ?_)
   refine sO rfl rfl (oBS2 rfl rfl rfl rfl rfl ?_)
   refine sO rfl rfl (oC rfl (fnOk_of Try.func39 (by decide) rfl) (set_ok [f.params, f.locals] _ _ (row2 gG (lrw (hkH.trans0 kZ) hpar) (lrw (hkH.trans0 kZ) hloc)) (by simp) (by intro r hr; simp only [List.mem_cons, List.not_mem_nil, or_false] at hr; rcases hr with rfl | rfl <;> omega)) ?_)
   rintro u G5 ⟨mv, ev, sv, rfl, hmv1, hmv2, hHv, hmemv, hk5⟩
   have hV2 : HoldsF ev (inV f) := hHv.f hmemv
   have hk6 := hk5.n
   simp only [Heap.n_push, Heap.n_set] at hk6 hmv1
   have hmvl := Heap.get_lt hmv2
   have hcf : G5.get H10.n = some (.cells 28 1 [.str f.name, .slice pp f.params.length, .slice pl f.locals.length, .slice pb f.body.length, .int .i64 b1, .int .i64 b2, .str b3, .int .i64 b4, .slice b5 nb]) := hk5.get gG rfl
   have hkp5 : Kp [] H10 G5 := Kp.trans0 kZ hk5
   have hw5 := hkp5.get hw rfl
   refine sO rfl rfl (oAlloc (cs := [.map none]) rfl rfl ?_)
   refine sO rfl rfl (oStore (n := 1) (cs' := [_]) rfl rfl rfl gG rfl (Nat.le_of_ble_eq_true rfl) rfl rfl ?_)
   show TrP 67 _ _ _ _
   refine tH [(5, _), (6, _), (9, _), (11, _), (12, _), (41, _), (42, _), (43, _), (44, _)] ?_
   refine Tri.seq ?_
   refine tR ?_
   refine sO rfl rfl (oLoad (x := .agg [.str f.name, .slice pp f.params.length, .slice pl f.locals.length, .slice pb f.body.length, .int .i64 b1, .int .i64 b2, .str b3, .int .i64 b4, .slice b5 nb]) rfl gG rfl ?_)
   refine sV rfl rfl rfl ?_
   refine sO rfl rfl (oCB rfl (fnOk_of Try.func30 (by decide) rfl) (walkExprs_ok (cloV (inV f) (inA p) ⟨gG, gG⟩ hV2 (hsA.kp ((hkp.trans0 hkp5).trans0 kZ)) hA2) f hlowf () _ _ Kp.refl (LFn.kp ((hkH.trans0 hkp5).trans0 kZ) f _ hLf2)) (fun G6 hK6 h55 => ?_) (fun G6 hK6 h55 => ?_))
   ·
    have hcf6 : G6.get H10.n = some (.cells 28 1 [.str f.name, .slice pp f.params.length, .slice pl f.locals.length, .slice pb f.body.length, .int .i64 b1, .int .i64 b2, .str b3, .int .i64 b4, .slice b5 nb]) := hK6.2.get gG rfl
    have hsV6 : SetIn G6 G5.n mv ev := ⟨hK6.2.get gG rfl, hK6.2.get gG rfl⟩
    have hkp6 : Kp [] H10 G6 := (hkp5.trans0 kZ).trans0 hK6.2
    have hw6 := hkp6.get hw rfl
    refine sV rfl rfl rfl ?_
    show TrP 67 _ _ _ _
    refine tH [(5, _), (6, _), (9, _), (11, _), (12, _), (13, _), (41, _), (42, _), (43, _), (44, _)] ?_
    refine Tri.seq ?_
    refine tR ?_
    iterate 2 refine sV rfl rfl rfl ?_
    refine sO rfl rfl (oW (at' (.ptr (some (_, 3)))) rfl rfl ?_)
    refine sO rfl rfl (oLoad (x := .at _) rfl gG rfl ?_)
    refine sV rfl rfl rfl ?_
    refine sO rfl rfl (oCB rfl (fnOk_of Try.func28 (by decide) rfl) (walkStmts_ok (cloR (inV f) (inA p) (arity p) (H0 := H4) hV2 hsA hA2 hf1 hf2 hN (Nat.le_refl _) ⟨by omega, by omega⟩) 2305843009213693952 f.body w 0 _ _ hv2 ⟨hkp.trans0 hkp6, hw6, hsV6⟩ (hbody.imp hk4 fun s _ => LM.kp hk4 s) (Nat.le_refl _) (by omega) (by omega)) (fun G7 hK7 h61 => ?_) (fun G7 hK7 h61 => ?_))
    ·
     have hkH7 : Kp [] H G7 := (hkH.trans0 hkp6).trans hK7.2 (fun i hi => .inr (by simp only [List.mem_cons, List.not_mem_nil, or_false] at hi; subst hi; omega))
     iterate 2 refine sV rfl rfl rfl ?_
     show TrP 67 _ _ _ _
     refine tH [(5, _), (6, _), (9, _), (11, _), (12, _), (13, _), (41, _), (42, _), (43, _), (44, _)] ?_
     refine Tri.seq ?_
     refine tR ?_
     iterate 2 refine sV rfl rfl rfl ?_
     show TrP 67 _ _ _ _
     refine tH [(5, _), (6, _), (9, _), (11, _), (12, _), (13, _), (41, _), (42, _), (43, _), (44, _), (64, _)] ?_
     refine tF rfl ?_
     refine Tri.skip ?_
     show TrP 67 _ _ _ _
     refine tH [(5, _), (6, _), (9, _), (11, _), (12, _), (13, _), (41, _), (42, _), (43, _), (44, _), (64, _)] ?_
     refine tR ?_
     refine sO rfl rfl (oAdd (m := 1) rfl (by omega) ?_)
     refine sV rfl rfl rfl ?_
     have e0 : (resF p w f).1 = true := by simp [resF, h55, h61]
     have e1 : (resF p w f).2 = (runL (stepR (inV f) (inA p) (arity p)) w (preSl 0 f.body)).2 := by simp [resF, h55]
     obtain ⟨g1, g2, g3⟩ := hK7.1 h61
     exact ⟨p.funcs.length - (j + 1), by omega, j + 1, (resF p w f).2, rfl, by omega, runL_snoc hrun hf e0, g1, by rw [e1]; exact g2, ⟨rfl, rfl, rfl, rfl, rfl, rfl, trivial⟩⟩
    ·
     have hkH7 : Kp [] H G7 := (hkH.trans0 hkp6).trans hK7.2 (fun i hi => .inr (by simp only [List.mem_cons, List.not_mem_nil, or_false] at hi; subst hi; omega))
     iterate 2 refine sV rfl rfl rfl ?_
     show TrP 67 _ _ _ _
     refine tH [(5, _), (6, _), (9, _), (11, _), (12, _), (13, _), (41, _), (42, _), (43, _), (44, _)] ?_
     refine Tri.seq ?_
     refine tR ?_
     iterate 2 refine sV rfl rfl rfl ?_
     show TrP 67 _ _ _ _
     refine tH [(5, _), (6, _), (9, _), (11, _), (12, _), (13, _), (41, _), (42, _), (43, _), (44, _), (64, _)] ?_
     refine tT rfl ?_
     refine Tri.seq ?_
     refine tR ?_
     refine sV rfl rfl rfl ?_
     show TrP 67 _ _ _ _
     refine tH [(2, _), (5, _), (6, _), (9, _), (11, _), (12, _), (13, _), (41, _), (42, _), (43, _), (44, _), (64, _)] ?_
     refine Tri.ret ?_
     refine ⟨trivial, _, rfl, ?_⟩
     first
       | (have e0 : (resF p w f).1 = false := by simp [resF, h55, h61]
          have e : resP p = 3 := by unfold resP; rw [if_neg (by rw [runL_stop hrun hf e0]; simp)]
          rw [e]; exact ⟨hkH7, rfl, rfl⟩)
       | (have e0 : (resF p w f).1 = false := by simp [resF, h55]
          have e : resP p = 3 := by unfold resP; rw [if_neg (by rw [runL_stop hrun hf e0]; simp)]
          rw [e]; exact ⟨hkH.trans0 hkp6, rfl, rfl⟩)
   ·
    have hcf6 : G6.get H10.n = some (.cells 28 1 [.str f.name, .slice pp f.params.length, .slice pl f.locals.length, .slice pb f.body.length, .int .i64 b1, .int .i64 b2, .str b3, .int .i64 b4, .slice b5 nb]) := hK6.2.get gG rfl
    have hsV6 : SetIn G6 G5.n mv ev := ⟨hK6.2.get gG rfl, hK6.2.get gG rfl⟩
    have hkp6 : Kp [] H10 G6 := (hkp5.trans0 kZ).trans0 hK6.2
    have hw6 := hkp6.get hw rfl
    refine sV rfl rfl rfl ?_
    show TrP 67 _ _ _ _
    refine tH [(5, _), (6, _), (9, _), (11, _), (12, _), (13, _), (41, _), (42, _), (43, _), (44, _)] ?_
    refine Tri.seq ?_
    refine tR ?_
    iterate 2 refine sV rfl rfl rfl ?_
    iterate 4 refine sN rfl rfl ?_
    iterate 2 refine sV rfl rfl rfl ?_
    show TrP 67 _ _ _ _
    refine tH [(5, _), (6, _), (9, _), (11, _), (12, _), (13, _), (41, _), (42, _), (43, _), (44, _)] ?_
    refine Tri.seq ?_
    refine tR ?_
    iterate 2 refine sV rfl rfl rfl ?_
    show TrP 67 _ _ _ _
    refine tH [(5, _), (6, _), (9, _), (11, _), (12, _), (13, _), (41, _), (42, _), (43, _), (44, _), (64, _)] ?_
    refine tT rfl ?_
    refine Tri.seq ?_
    refine tR ?_
    refine sV rfl rfl rfl ?_
    show TrP 67 _ _ _ _
    refine tH [(2, _), (5, _), (6, _), (9, _), (11, _), (12, _), (13, _), (41, _), (42, _), (43, _), (44, _), (64, _)] ?_
    refine Tri.ret ?_
    refine ⟨trivial, _, rfl, ?_⟩
    first
      | (have e0 : (resF p w f).1 = false := by simp [resF, h55, h61]
         have e : resP p = 3 := by unfold resP; rw [if_neg (by rw [runL_stop hrun hf e0]; simp)]
         rw [e]; exact ⟨hkH7, rfl, rfl⟩)
      | (have e0 : (resF p w f).1 = false := by simp [resF, h55]
         have e : resP p = 3 := by unfold resP; rw [if_neg (by rw [runL_stop hrun hf e0]; simp)]
         rw [e]; exact ⟨hkH.trans0 hkp6, rfl, rfl⟩)
  ·
   show TrP 67 _ _ _ _
   refine tH [(5, _), (6, _), (9, _), (41, _), (42, _), (43, _), (44, _)] ?_
   refine Tri.seq ?_
   refine tF rfl ?_
   refine Tri.exit ?_
   show TrP 67 _ _ _ _
   refine tH [(5, _), (6, _), (9, _), (41, _), (42, _), (43, _), (44, _)] ?_
   refine Tri.seq ?_
   refine tR ?_
   refine sO rfl rfl (oLoad (x := .at _) rfl gG rfl ?_)
   refine sV rfl rfl rfl ?_
   show TrP 67 _ _ _ _
   refine tH [(2, _), (5, _), (6, _), (9, _), (41, _), (42, _), (43, _), (44, _)] ?_
   refine Tri.ret ?_
   refine ⟨trivial, _, rfl, ?_⟩
   rw [List.take_of_length_le (by omega)] at hrun
   have e : resP p = w := by unfold resP; rw [hrun]; rfl
   rw [e]; exact ⟨hkH, rfl, rfl⟩
/-- What Check answers. -/
noncomputable def chkS (p : Pr) : Int := if limP p = false then 6 else if wfPr p = false then 2 else if dupP p = true then 4 else resP p
theorem limP_le {p : Pr} (h : limP p = true) : p.arrays.length ≤ 4 ∧ p.funcs.length ≤ 8 := by
  unfold limP at h
  simp only [Bool.and_eq_true, Bool.not_eq_true', decide_eq_false_iff_not] at h
  omega

theorem Check_ok (p : Pr) (cs : List AT) (H : Heap) (hL : LPr H p cs) (hlow : LowP p) : Sim Try.prog 8 [.one (.agg cs)] H (fun u G => u = at' (.int .i64 (chkS p)) ∧ G = H) := by
 have hL0 := hL
 obtain ⟨pa, pf, rfl, hA, hF⟩ := hL
 refine Sim.trim ?_
 refine Sim.of_tri Try.func8 rfl ?_
 show TrP 16 _ _ _ _
 refine Tri.seq ?_
 refine tR ?_
 refine sO rfl rfl (oBox (cs := [_, _]) rfl rfl ?_)
 refine sV rfl rfl rfl ?_
 show TrP 16 _ _ _ _
 refine tH [(0, _), (1, _), (2, _)] ?_
 refine Tri.seq ?_
 refine Tri.block ?_
 refine Tri.seq ?_
 refine tR ?_
 refine sO rfl rfl (oLoad (x := .agg [_, _]) rfl gG rfl ?_)
 refine sO rfl rfl (oFB rfl (fnOk_of Try.func14 (by decide) rfl) (withinLimits_ok p _ _ (hL0.kp kZ) hlow) (fun h5 => ?_) (fun h5 => ?_))
 ·
  iterate 2 refine sV rfl rfl rfl ?_
  show TrP 16 _ _ _ _
  refine tH [(0, _), (1, _), (2, _), (3, _)] ?_
  refine tF rfl ?_
  refine Tri.seq ?_
  refine tR ?_
  refine sO rfl rfl (oLoad (x := .agg [_, _]) rfl gG rfl ?_)
  refine sO rfl rfl (oFB rfl (fnOk_of Try.func15 (by decide) rfl) (wellFormed_ok p _ _ (hL0.kp kZ) hlow) (fun h9 => ?_) (fun h9 => ?_))
  ·
   iterate 2 refine sV rfl rfl rfl ?_
   show TrP 16 _ _ _ _
   refine tH [(0, _), (1, _), (2, _), (3, _), (7, _)] ?_
   refine tF rfl ?_
   refine Tri.seq ?_
   refine tR ?_
   refine sO rfl rfl (oLoad (x := .agg [_, _]) rfl gG rfl ?_)
   refine sO rfl rfl (oFB rfl (fnOk_of Try.func16 (by decide) rfl) (duplicates_ok p _ _ (hL0.kp kZ) hlow (limP_le h5).1 (limP_le h5).2) (fun h13 => ?_) (fun h13 => ?_))
   ·
    refine sV rfl rfl rfl ?_
    show TrP 16 _ _ _ _
    refine tH [(0, _), (1, _), (2, _), (3, _), (7, _), (11, _)] ?_
    refine tT rfl ?_
    refine Tri.seq ?_
    refine tR ?_
    refine sV rfl rfl rfl ?_
    show TrP 16 _ _ _ _
    refine tH [(0, _), (1, _), (2, _), (3, _), (7, _), (11, _)] ?_
    refine Tri.ret ?_
    refine ⟨trivial, _, rfl, ?_⟩
    have e : chkS p = 4 := by unfold chkS; rw [if_neg (by rw [h5]; simp), if_neg (by rw [h9]; simp), if_pos h13]
    rw [e]; exact ⟨kZ, rfl, rfl⟩
   ·
    refine sV rfl rfl rfl ?_
    show TrP 16 _ _ _ _
    refine tH [(0, _), (1, _), (2, _), (3, _), (7, _), (11, _)] ?_
    refine tF rfl ?_
    refine Tri.skip ?_
    show TrP 16 _ _ _ _
    refine tH [(0, _), (1, _), (2, _), (3, _), (7, _), (11, _)] ?_
    refine Tri.seq ?_
    refine tR ?_
    refine sO rfl rfl (oLoad (x := .agg [_, _]) rfl gG rfl ?_)
    refine sO rfl rfl (oF rfl (fnOk_of Try.func17 (by decide) rfl) (resolve_ok p _ _ (hL0.kp kZ) hlow (limP_le h5).1 (limP_le h5).2) ?_)
    refine sV rfl rfl rfl ?_
    show TrP 16 _ _ _ _
    refine tH [(0, _), (1, _), (2, _), (3, _), (7, _), (11, _)] ?_
    refine Tri.ret ?_
    refine ⟨trivial, _, rfl, ?_⟩
    have e : chkS p = resP p := by unfold chkS; rw [if_neg (by rw [h5]; simp), if_neg (by rw [h9]; simp), if_neg (by rw [h13]; simp)]
    rw [e]; exact ⟨kZ, rfl, rfl⟩
  ·
   iterate 2 refine sV rfl rfl rfl ?_
   show TrP 16 _ _ _ _
   refine tH [(0, _), (1, _), (2, _), (3, _), (7, _)] ?_
   refine tT rfl ?_
   refine Tri.seq ?_
   refine tR ?_
   refine sV rfl rfl rfl ?_
   show TrP 16 _ _ _ _
   refine tH [(0, _), (1, _), (2, _), (3, _), (7, _)] ?_
   refine Tri.ret ?_
   refine ⟨trivial, _, rfl, ?_⟩
   have e : chkS p = 2 := by unfold chkS; rw [if_neg (by rw [h5]; simp), if_pos h9]
   rw [e]; exact ⟨kZ, rfl, rfl⟩
 ·
  iterate 2 refine sV rfl rfl rfl ?_
  show TrP 16 _ _ _ _
  refine tH [(0, _), (1, _), (2, _), (3, _)] ?_
  refine tT rfl ?_
  refine Tri.seq ?_
  refine tR ?_
  refine sV rfl rfl rfl ?_
  show TrP 16 _ _ _ _
  refine tH [(0, _), (1, _), (2, _), (3, _)] ?_
  refine Tri.ret ?_
  refine ⟨trivial, _, rfl, ?_⟩
  have e : chkS p = 6 := by unfold chkS; rw [if_pos h5]
  rw [e]; exact ⟨kZ, rfl, rfl⟩
end Go.Proofs.Ytceakkomleaibaa
