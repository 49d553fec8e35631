/-
  PLAIN LAWS: what Check answers of a program that was read when one part is changed. Written in this session.
-/
import Derived.Test.YtceakkomleaibaaKs
import Derived.Test.YtceakkomleaibaaKd
namespace Go.Proofs.Ytceakkomleaibaa
open Go.Ea
set_option maxRecDepth 100000
set_option linter.unusedVariables false
set_option linter.unusedSimpArgs false
def prg (la lb : Int) (f g : Fn1) : Pr := ⟨[⟨[97], la⟩, ⟨[98], lb⟩], [f, g]⟩
def mkF (nm : List UInt8) (ls : List (List UInt8)) (b : List Stm) (v : Exp) : Fn1 := ⟨nm, [[120], [121]], ls, b, v⟩
def ijL : List (List UInt8) := [[105], [106]]
section
variable {b1 b2 : List Stm} {v1 v2 : Exp} {la lb : Nat}
theorem Read.h1 (R : Read b1 b2 v1 v2 la lb) {V A : List UInt8 → Bool} {F : List UInt8 → Option Nat} (hV : ∀ s ∈ nmL 0, V s = true) (hA : A [97] = true ∧ A [98] = true) (hF : F [102] = some 2 ∧ F [103] = some 1) : ∀ a ∈ preSl 0 b1, NS V A F 20 a := fun a ha => by
  obtain ⟨s, h1, h2⟩ := preSl_mem ha
  exact ((R.hb1 s h1).all hV (vName_nm 0) hA hF 0 a h2).le (by omega)
theorem Read.h2 (R : Read b1 b2 v1 v2 la lb) {V A : List UInt8 → Bool} {F : List UInt8 → Option Nat} (hV : ∀ s ∈ nmL 1, V s = true) (hA : A [97] = true ∧ A [98] = true) (hF : F [102] = some 2 ∧ F [103] = some 1) : ∀ a ∈ preSl 0 b2, NS V A F 20 a := fun a ha => by
  obtain ⟨s, h1, h2⟩ := preSl_mem ha
  exact ((R.hb2 s h1).all hV (vName_nm 1) hA hF 0 a h2).le (by omega)
theorem Read.d1 (R : Read b1 b2 v1 v2 la lb) : ∀ a ∈ preSl 0 b1, wfS1 a.1 = true ∧ a.2 ≤ 20 ∧ stepX stepD () a = (true, ()) := fun a ha => by
  have h := R.h1 (V := fun _ => true) (A := fun _ => true) (F := fun s => if s = [102] then some 2 else some 1) (fun _ _ => rfl) ⟨rfl, rfl⟩ ⟨rfl, rfl⟩ a ha
  exact ⟨h.2.1, h.1, h.2.2.1⟩
theorem Read.d2 (R : Read b1 b2 v1 v2 la lb) : ∀ a ∈ preSl 0 b2, wfS1 a.1 = true ∧ a.2 ≤ 20 ∧ stepX stepD () a = (true, ()) := fun a ha => by
  have h := R.h2 (V := fun _ => true) (A := fun _ => true) (F := fun s => if s = [102] then some 2 else some 1) (fun _ _ => rfl) ⟨rfl, rfl⟩ ⟨rfl, rfl⟩ a ha
  exact ⟨h.2.1, h.1, h.2.2.1⟩
theorem GX.dep {nm : List (List UInt8)} (hv : ∀ s ∈ nm, vName s = true) {k : Nat} {e : Exp} (h : GX nm k e) (hk : k ≤ 20) : ∀ a ∈ preE 0 e, a.2 ≤ 20 := fun a ha => by
  have := (h.all (V := fun _ => true) (A := fun _ => true) (fun _ _ => rfl) hv ⟨rfl, rfl⟩ 0 a ha).1
  omega
theorem Read.g_lim (R : Read b1 b2 v1 v2 la lb) : ∀ nm, limF ⟨nm, [[110]], [[105]], b2, v2⟩ = true := fun nm =>
  limF_of (by show 1 ≤ 6; decide) (by show 1 ≤ 8; decide) (fun a ha => (R.d2 a ha).2) (by have := R.hn; show (preSl 0 b2).length ≤ 200; rw [(preSl_len _).2 b2 (Nat.le_refl _)]; omega) (by have := R.hlp; show ((preSl 0 b2).filter isW).length ≤ 16; rw [(preSl_loops _).2 b2 (Nat.le_refl _)]; omega) (R.hv2.dep (vName_nm 1) (by omega))
theorem Read.g_wf (R : Read b1 b2 v1 v2 la lb) {nm : List UInt8} (h : vName nm = true) : wfF ⟨nm, [[110]], [[105]], b2, v2⟩ = true :=
  wfF_of h (by show ∀ s ∈ [[110]], vName s = true; decide +kernel) (by show ∀ s ∈ [[105]], vName s = true; decide +kernel) (R.hv2.wf (vName_nm 1)) fun a ha => (R.d2 a ha).1
/-- The first function with another name, other locals, another value, one statement more. -/
theorem Read.f_lim (R : Read b1 b2 v1 v2 la lb) {nm : List UInt8} {ls : List (List UInt8)} {x : List Stm} {v : Exp} (hl : ls.length ≤ 8) (hx : ∀ a ∈ preSl 0 x, a.2 ≤ 20 ∧ stepX stepD () a = (true, ())) (hn : nStl x ≤ 5) (hlp : nLpl x ≤ 1) (hv : ∀ a ∈ preE 0 v, a.2 ≤ 20) : limF (mkF nm ls (b1 ++ x) v) = true := by
  have e1 := (preSl_len _).2 b1 (Nat.le_refl _) 0
  have e2 := (preSl_len _).2 x (Nat.le_refl _) 0
  have e3 := (preSl_loops _).2 b1 (Nat.le_refl _) 0
  have e4 := (preSl_loops _).2 x (Nat.le_refl _) 0
  have h1 := R.hn; have h2 := R.hlp
  refine limF_of (by show 2 ≤ 6; decide) hl (fun a ha => ?_) ?_ ?_ hv
  · have ha : a ∈ preSl 0 (b1 ++ x) := ha
    rw [preSl_app] at ha
    rcases List.mem_append.1 ha with h | h
    · exact (R.d1 a h).2
    · exact hx a h
  · show (preSl 0 (b1 ++ x)).length ≤ 200
    rw [preSl_app, List.length_append]; omega
  · show ((preSl 0 (b1 ++ x)).filter isW).length ≤ 16
    rw [preSl_app, List.filter_append, List.length_append]; omega
theorem limP_of {f g : Fn1} (h1 : limF f = true) (h2 : limF g = true) (hla : 1 ≤ la ∧ la ≤ 4) (hlb : 1 ≤ lb ∧ lb ≤ 4) : limP (prg la lb f g) = true := by
  have e1 : limA ⟨[97], (la : Int)⟩ = true := by unfold limA; simp; omega
  have e2 : limA ⟨[98], (lb : Int)⟩ = true := by unfold limA; simp; omega
  simp [limP, prg, e1, e2, h1, h2]
theorem wfPr_of {f g : Fn1} (h1 : wfF f = true) (h2 : wfF g = true) : wfPr (prg la lb f g) = true := by
  have e1 : wfA ⟨[97], (la : Int)⟩ = true := vName_ab.1
  have e2 : wfA ⟨[98], (lb : Int)⟩ = true := vName_ab.2.1
  simp [wfPr, prg, e1, e2, h1, h2]
theorem wfPr_no {f g : Fn1} (h1 : wfF f = false) : wfPr (prg la lb f g) = false := by simp [wfPr, prg, h1]
theorem preSl1 (x : Stm) (h : x.thn = []) (h2 : x.els = []) : preSl 0 [x] = [(x, 0)] := by simp [preSl, preS_eq, h, h2]
/-- A statement more: what Check answers, by what it makes of the names. -/
theorem Read.app (R : Read b1 b2 v1 v2 la lb) {x : List Stm} {r : Int} (hx : ∀ a ∈ preSl 0 x, a.2 ≤ 20 ∧ stepX stepD () a = (true, ())) (hn : nStl x ≤ 5) (hlp : nLpl x ≤ 1) (hw : ∀ a ∈ preSl 0 x, wfS1 a.1 = true)
    (hok : ∀ a ∈ preSl 0 x, stepX (stepV (inV (fnF [] v1)) (inA (prg la lb (fnF [] v1) (fnG [] v2)))) () a = (true, ())) (hr : (runL (stepR (inV (fnF [] v1)) (inA (prg la lb (fnF [] v1) (fnG [] v2))) (arity (prg la lb (fnF [] v1) (fnG [] v2)))) 0 (preSl 0 x)).1 = false ∧ r = 3 ∨ runL (stepR (inV (fnF [] v1)) (inA (prg la lb (fnF [] v1) (fnG [] v2))) (arity (prg la lb (fnF [] v1) (fnG [] v2)))) 0 (preSl 0 x) = (true, r)) :
    chkS (prg la lb (fnF (b1 ++ x) v1) (fnG b2 v2)) = r := by
  have e1 : limP (prg la lb (fnF (b1 ++ x) v1) (fnG b2 v2)) = true := limP_of (R.f_lim (by decide) hx hn hlp (R.hv1.dep (vName_nm 0) (by omega))) (R.g_lim _) R.hla R.hlb
  have e2 : wfPr (prg la lb (fnF (b1 ++ x) v1) (fnG b2 v2)) = true := wfPr_of (wfF_of vName_ab.2.2.1 (by show ∀ s ∈ [[120], [121]], vName s = true; decide +kernel) (by show ∀ s ∈ [[105], [106]], vName s = true; decide +kernel) (R.hv1.wf (vName_nm 0)) fun a ha => by
    have ha : a ∈ preSl 0 (b1 ++ x) := ha
    rw [preSl_app] at ha
    rcases List.mem_append.1 ha with h | h
    · exact (R.d1 a h).1
    · exact hw a h) (R.g_wf vName_ab.2.2.2)
  have e3 : dupP (prg la lb (fnF (b1 ++ x) v1) (fnG b2 v2)) = false := rfl
  unfold chkS
  rw [if_neg (by rw [e1]; simp), if_neg (by rw [e2]; simp), if_neg (by rw [e3]; simp)]
  have hV0 : ∀ s ∈ nmL 0, inV (fnF (b1 ++ x) v1) s = true := by
    show ∀ s ∈ nmL 0, decide (s ∈ ([[[120], [121]], [[105], [106]]] : List (List (List UInt8))).flatten) = true
    decide
  have hV1 : ∀ s ∈ nmL 1, inV (fnG b2 v2) s = true := by
    show ∀ s ∈ nmL 1, decide (s ∈ ([[[110]], [[105]]] : List (List (List UInt8))).flatten) = true
    decide
  have hA : inA (prg la lb (fnF (b1 ++ x) v1) (fnG b2 v2)) [97] = true ∧ inA (prg la lb (fnF (b1 ++ x) v1) (fnG b2 v2)) [98] = true := ⟨rfl, rfl⟩
  have hF : arity (prg la lb (fnF (b1 ++ x) v1) (fnG b2 v2)) [102] = some 2 ∧ arity (prg la lb (fnF (b1 ++ x) v1) (fnG b2 v2)) [103] = some 1 := ⟨rfl, rfl⟩
  have s1 := R.h1 hV0 hA hF
  have s2 := R.h2 hV1 hA hF
  have f1 : ∀ w, resF (prg la lb (fnF (b1 ++ x) v1) (fnG b2 v2)) w (fnG b2 v2) = (true, w) := fun w => by
    rw [resF_of (fun a ha => (R.hv2.ok hV1 (vName_nm 1) hA (by omega) a ha).2) fun a ha => (s2 a ha).2.2.2.1]
    exact runL_const fun a ha => (s2 a ha).2.2.2.2 w
  have f0 : resF (prg la lb (fnF (b1 ++ x) v1) (fnG b2 v2)) 0 (fnF (b1 ++ x) v1) = runL (stepR (inV (fnF [] v1)) (inA (prg la lb (fnF [] v1) (fnG [] v2))) (arity (prg la lb (fnF [] v1) (fnG [] v2)))) 0 (preSl 0 x) := by
    rw [resF_of (fun a ha => (R.hv1.ok hV0 (vName_nm 0) hA (by omega) a ha).2) fun a ha => by
      have ha : a ∈ preSl 0 (b1 ++ x) := ha
      rw [preSl_app] at ha
      rcases List.mem_append.1 ha with h | h
      · exact (s1 a h).2.2.2.1
      · exact hok a h]
    show runL _ 0 (preSl 0 (b1 ++ x)) = _
    rw [preSl_app, runL_app, runL_const fun a ha => (s1 a ha).2.2.2.2 0]
    rfl
  have ep : (prg la lb (fnF (b1 ++ x) v1) (fnG b2 v2)).funcs = [fnF (b1 ++ x) v1, fnG b2 v2] := rfl
  unfold resP
  rw [ep]
  simp only [runL, f0, f1]
  rcases hr with ⟨h1, h2⟩ | h1
  · rw [h1, h2]; simp
  · rw [h1]; simp

def num0 : Exp := .mk 1 0 [] 0 []
theorem num0_ok {V A : List UInt8 → Bool} : ∀ x ∈ preE 0 num0, x.2 ≤ 20 ∧ okX V A x.1 = true := by
  intro x hx
  simp only [num0, preE, preEl, List.mem_cons, List.not_mem_nil, or_false] at hx
  subst hx
  exact ⟨by simp, by simp [okX, Exp.kind]⟩
theorem num0_wf : wfX num0 = true := by decide +kernel
theorem one_ok {V A : List UInt8 → Bool} {x : Stm} (h1 : x.thn = []) (h2 : x.els = []) (hs : x.sub = .zero ∨ x.sub = num0) (hv : x.value = .zero ∨ x.value = num0) (ha : x.args = []) : ∀ a ∈ preSl 0 [x], a.2 ≤ 20 ∧ stepX stepD () a = (true, ()) ∧ stepX (stepV V A) () a = (true, ()) := by
  intro a h
  rw [preSl1 x h1 h2] at h
  simp only [List.mem_cons, List.not_mem_nil, or_false] at h
  subst h
  obtain ⟨e1, e2⟩ := exprs_ok (V := V) (A := A) (a := (x, 0)) (fun y hy => by
    simp only [ha, preEl, List.append_nil] at hy
    rcases List.mem_append.1 hy with hy | hy
    · rcases hs with e | e
      · rw [e] at hy; exact zero_ok y hy
      · rw [e] at hy; exact num0_ok y hy
    · rcases hv with e | e
      · rw [e] at hy; exact zero_ok y hy
      · rw [e] at hy; exact num0_ok y hy)
  exact ⟨by simp, e1, e2⟩
theorem Read.c12 (R : Read b1 b2 v1 v2 la lb) : chkS (prg la lb (fnF b1 v1) (fnG b2 v2)) = 0 := by
  have := R.app (x := []) (r := 0) (fun a h => by simp [preSl] at h) (by simp [nStl]) (by simp [nLpl]) (fun a h => by simp [preSl] at h) (fun a h => by simp [preSl] at h) (.inr rfl)
  rwa [List.append_nil] at this
def st9 : Stm := .mk 2 [120] [] 0 num0 num0 [] [] []
def st10 : Stm := .mk 6 [120] [104] 0 .zero .zero [] [] []
def st11 : Stm := .mk 6 [120] [103] 0 .zero .zero [] [] []
def st5 : Stm := .mk 7 [] [] (-1) .zero .zero [] [] []
def st6 : Stm := .mk 4 [] [] 0 .zero num0 [] [] [.mk 7 [] [] 0 .zero .zero [] [] []]
theorem one_wf {x : Stm} (h1 : x.thn = []) (h2 : x.els = []) (hw : wfS1 x = true) : ∀ a ∈ preSl 0 [x], wfS1 a.1 = true := by
  intro a h
  rw [preSl1 x h1 h2] at h
  simp only [List.mem_cons, List.not_mem_nil, or_false] at h
  subst h; exact hw
theorem Read.c9 (R : Read b1 b2 v1 v2 la lb) : chkS (prg la lb (fnF (b1 ++ [st9]) v1) (fnG b2 v2)) = 3 :=
  R.app (fun a h => ⟨(one_ok (V := fun _ => true) (A := fun _ => true) rfl rfl (.inr rfl) (.inr rfl) rfl a h).1, (one_ok (V := fun _ => true) (A := fun _ => true) rfl rfl (.inr rfl) (.inr rfl) rfl a h).2.1⟩) (by decide) (by decide) (one_wf rfl rfl (by decide +kernel)) (fun a h => (one_ok rfl rfl (.inr rfl) (.inr rfl) rfl a h).2.2) (.inl ⟨rfl, rfl⟩)
theorem Read.c10 (R : Read b1 b2 v1 v2 la lb) : chkS (prg la lb (fnF (b1 ++ [st10]) v1) (fnG b2 v2)) = 3 :=
  R.app (fun a h => ⟨(one_ok (V := fun _ => true) (A := fun _ => true) rfl rfl (.inl rfl) (.inl rfl) rfl a h).1, (one_ok (V := fun _ => true) (A := fun _ => true) rfl rfl (.inl rfl) (.inl rfl) rfl a h).2.1⟩) (by decide) (by decide) (one_wf rfl rfl (by decide +kernel)) (fun a h => (one_ok rfl rfl (.inl rfl) (.inl rfl) rfl a h).2.2) (.inl ⟨rfl, rfl⟩)
theorem Read.c11 (R : Read b1 b2 v1 v2 la lb) : chkS (prg la lb (fnF (b1 ++ [st11]) v1) (fnG b2 v2)) = 5 :=
  R.app (fun a h => ⟨(one_ok (V := fun _ => true) (A := fun _ => true) rfl rfl (.inl rfl) (.inl rfl) rfl a h).1, (one_ok (V := fun _ => true) (A := fun _ => true) rfl rfl (.inl rfl) (.inl rfl) rfl a h).2.1⟩) (by decide) (by decide) (one_wf rfl rfl (by decide +kernel)) (fun a h => (one_ok rfl rfl (.inl rfl) (.inl rfl) rfl a h).2.2) (.inr rfl)
theorem chk2 {p : Pr} (h1 : limP p = true) (h2 : wfPr p = false) : chkS p = 2 := by unfold chkS; rw [if_neg (by rw [h1]; simp), if_pos h2]
theorem chk6 {p : Pr} (h1 : limP p = false) : chkS p = 6 := by unfold chkS; rw [if_pos h1]
theorem chk4 {p : Pr} (h1 : limP p = true) (h2 : wfPr p = true) (h3 : dupP p = true) : chkS p = 4 := by unfold chkS; rw [if_neg (by rw [h1]; simp), if_neg (by rw [h2]; simp), if_pos h3]
theorem wfF_body {f : Fn1} (h : wfSl f.body = false) : wfF f = false := by simp [wfF, h]
theorem wfSl_no {b : List Stm} {x : Stm} (h : wfS1 x = false) : wfSl (b ++ [x]) = false := by
  unfold wfSl
  rw [preSl_app, List.all_append]
  simp [preSl, preS_eq, h]
theorem Read.c5 (R : Read b1 b2 v1 v2 la lb) : chkS (prg la lb (fnF (b1 ++ [st5]) v1) (fnG b2 v2)) = 2 :=
  chk2 (limP_of (R.f_lim (ls := ijL) (by decide) (fun a h => ⟨(one_ok (V := fun _ => true) (A := fun _ => true) rfl rfl (.inl rfl) (.inl rfl) rfl a h).1, (one_ok (V := fun _ => true) (A := fun _ => true) rfl rfl (.inl rfl) (.inl rfl) rfl a h).2.1⟩) (by decide) (by decide) (R.hv1.dep (vName_nm 0) (by omega))) (R.g_lim _) R.hla R.hlb)
    (wfPr_no (wfF_body (wfSl_no (by decide +kernel))))
theorem st6_ok : ∀ a ∈ preSl 0 [st6], a.2 ≤ 20 ∧ stepX stepD () a = (true, ()) := by
  intro a h
  have h : a ∈ [(st6, 0), ((.mk 7 [] [] 0 .zero .zero [] [] [] : Stm), 1)] := h
  simp only [List.mem_cons, List.not_mem_nil, or_false] at h
  rcases h with rfl | rfl
  · exact ⟨by simp, rfl⟩
  · exact ⟨by simp, rfl⟩
theorem Read.c6 (R : Read b1 b2 v1 v2 la lb) : chkS (prg la lb (fnF (b1 ++ [st6]) v1) (fnG b2 v2)) = 2 :=
  chk2 (limP_of (R.f_lim (ls := ijL) (by decide) st6_ok (by decide) (by decide) (R.hv1.dep (vName_nm 0) (by omega))) (R.g_lim _) R.hla R.hlb)
    (wfPr_no (wfF_body (wfSl_no (by decide +kernel))))
theorem nil_ok : ∀ a ∈ preSl 0 ([] : List Stm), a.2 ≤ 20 ∧ stepX stepD () a = (true, ()) := fun a h => by simp [preSl] at h
theorem Read.lim0 (R : Read b1 b2 v1 v2 la lb) {nm : List UInt8} {ls : List (List UInt8)} {v : Exp} (hl : ls.length ≤ 8) (hv : ∀ a ∈ preE 0 v, a.2 ≤ 20) : limF (mkF nm ls b1 v) = true := by
  have := R.f_lim (nm := nm) (x := []) hl nil_ok (by simp [nStl]) (by simp [nLpl]) hv
  rwa [List.append_nil] at this
theorem Read.c0 (R : Read b1 b2 v1 v2 la lb) : chkS (prg la lb (mkF [102] [[105], [106], [107], [108], [109], [111], [112], [113], [114]] b1 v1) (fnG b2 v2)) = 6 := by
  refine chk6 ?_
  have h : limF (mkF [102] [[105], [106], [107], [108], [109], [111], [112], [113], [114]] b1 v1) = false := by
    unfold limF
    rw [decide_eq_false (show ¬ (((mkF [102] [[105], [106], [107], [108], [109], [111], [112], [113], [114]] b1 v1).locals.length : Int) ≤ 8) by show ¬ ((9 : Nat) : Int) ≤ 8; decide)]
    simp
  simp [limP, prg, h]
theorem c1 {f g : Fn1} : chkS (prg 17 lb f g) = 6 := by
  refine chk6 ?_
  have h : limA ⟨[97], 17⟩ = false := by decide
  simp [limP, prg, h]
def negs : Nat → Exp
  | 0 => num0
  | n + 1 => .mk 4 0 [] 20 [negs n]
theorem c2 {nm : List UInt8} {ls : List (List UInt8)} {g : Fn1} : chkS (prg la lb (mkF nm ls b1 (negs 21)) g) = 6 := by
  refine chk6 ?_
  have h0 : (runL stepD () (preE 0 (negs 21))).1 = false := by decide +kernel
  have h : limF (mkF nm ls b1 (negs 21)) = false := by
    unfold limF runF
    rw [if_neg (by show ¬ (runL stepD () (preE 0 (negs 21))).1 = true; rw [h0]; simp)]
    simp
  simp [limP, prg, h]
theorem Read.c3 (R : Read b1 b2 v1 v2 la lb) : chkS (prg la lb (mkF [119, 104, 105, 108, 101] ijL b1 v1) (fnG b2 v2)) = 2 :=
  chk2 (limP_of (R.lim0 (by decide) (R.hv1.dep (vName_nm 0) (by omega))) (R.g_lim _) R.hla R.hlb) (wfPr_no (by
    have h : vName [119, 104, 105, 108, 101] = false := by decide +kernel
    simp [wfF, mkF, h]))
def ltu : Exp := .mk 4 0 [] 19 [num0, num0]
theorem Read.c4 (R : Read b1 b2 v1 v2 la lb) : chkS (prg la lb (mkF [102] ijL b1 ltu) (fnG b2 v2)) = 2 :=
  chk2 (limP_of (R.lim0 (by decide) (by decide +kernel)) (R.g_lim _) R.hla R.hlb) (wfPr_no (by
    have h : wfX ltu = false := by decide +kernel
    simp [wfF, mkF, h]))
theorem Read.c7 (R : Read b1 b2 v1 v2 la lb) : chkS (prg la lb (fnF b1 v1) ⟨[102], [[110]], [[105]], b2, v2⟩) = 4 :=
  chk4 (limP_of (R.lim0 (nm := [102]) (ls := ijL) (by decide) (R.hv1.dep (vName_nm 0) (by omega))) (R.g_lim _) R.hla R.hlb)
    (wfPr_of (wfF_of vName_ab.2.2.1 (by show ∀ s ∈ [[120], [121]], vName s = true; decide +kernel) (by show ∀ s ∈ [[105], [106]], vName s = true; decide +kernel) (R.hv1.wf (vName_nm 0)) fun a ha => (R.d1 a ha).1) (R.g_wf vName_ab.2.2.1)) rfl
theorem Read.c8 (R : Read b1 b2 v1 v2 la lb) : chkS (prg la lb (mkF [102] [[105], [106], [98]] b1 v1) (fnG b2 v2)) = 4 :=
  chk4 (limP_of (R.lim0 (by decide) (R.hv1.dep (vName_nm 0) (by omega))) (R.g_lim _) R.hla R.hlb)
    (wfPr_of (wfF_of vName_ab.2.2.1 (by show ∀ s ∈ [[120], [121]], vName s = true; decide +kernel) (by show ∀ s ∈ [[105], [106], [98]], vName s = true; decide +kernel) (R.hv1.wf (vName_nm 0)) fun a ha => (R.d1 a ha).1) (R.g_wf vName_ab.2.2.2)) rfl

/-! ### sizes -/
theorem GX.ht {nm : List (List UInt8)} {k : Nat} {e : Exp} (h : GX nm k e) : htE e + 2 ≤ 3 ^ (k + 1) := by
  induction h with
  | @var k s h => simp only [htE, htEl]; have := Nat.pow_le_pow_right (n := 3) (by omega) (show 1 ≤ k + 1 by omega); omega
  | @num k n => simp only [htE, htEl]; have := Nat.pow_le_pow_right (n := 3) (by omega) (show 1 ≤ k + 1 by omega); omega
  | @idx k s e h _ ih => simp only [htE, htEl]; rw [Nat.pow_succ]; have := Nat.pow_le_pow_right (n := 3) (by omega) (show 1 ≤ k + 1 by omega); omega
  | @cond k a b c _ _ _ i1 i2 i3 => simp only [htE, htEl]; rw [Nat.pow_succ]; omega
  | @un k o e h _ ih => simp only [htE, htEl]; rw [Nat.pow_succ]; have := Nat.pow_le_pow_right (n := 3) (by omega) (show 1 ≤ k + 1 by omega); omega
  | @bin k o a b h _ _ i1 i2 => simp only [htE, htEl]; rw [Nat.pow_succ]; omega
theorem GX.ht4 {nm : List (List UInt8)} {k : Nat} {e : Exp} (h : GX nm k e) (hk : k ≤ 4) : htE e ≤ 241 := by
  have h1 := h.ht
  have h2 := Nat.pow_le_pow_right (n := 3) (by omega) (show k + 1 ≤ 5 by omega)
  omega
theorem htSl_le : ∀ {l : List Stm}, (∀ s ∈ l, htS s + 1 ≤ 2000 * nSt s) → htSl l ≤ 2000 * nStl l
  | [], _ => by simp [htSl]
  | s :: r, h => by
    have h1 := h s (by simp)
    have h2 := htSl_le (l := r) fun x hx => h x (List.mem_cons_of_mem _ hx)
    simp only [htSl, nStl]; omega
theorem GS.ht {nm : List (List UInt8)} {k : Nat} {s : Stm} (h : GS nm k s) : htS s + 1 ≤ 2000 * nSt s := by
  have z : htE .zero = 1 := rfl
  induction h with
  | @assign k s v h hg => have := hg.ht4 (by omega); simp only [htS, htSl, htEl, nSt, nStl, z]; omega
  | @store k s x v h hx hg => have := hg.ht4 (by omega); have := hx.ht4 (by omega); simp only [htS, htSl, htEl, nSt, nStl]; omega
  | @cond k v thn els hg _ _ ih1 ih2 => have := hg.ht4 (by omega); have := htSl_le ih1; have := htSl_le ih2; simp only [htS, htEl, nSt, z]; omega
  | @loop k v thn hg _ ih1 => have := hg.ht4 (by omega); have := htSl_le ih1; simp only [htS, htSl, htEl, nSt, nStl, z]; omega
  | @out k v hg => have := hg.ht4 (by omega); simp only [htS, htSl, htEl, nSt, nStl, z]; omega
  | @call k s t args h ht hg =>
    have hl : htEl args ≤ 500 := by
      rcases ht with ⟨_, h⟩ | ⟨_, h⟩
      · match args, h with
        | [a, b], _ => have := (hg a (by simp)).ht4 (by omega); have := (hg b (by simp)).ht4 (by omega); simp only [htEl]; omega
      · match args, h with
        | [a], _ => have := (hg a (by simp)).ht4 (by omega); simp only [htEl]; omega
    simp only [htS, htSl, nSt, nStl, z]; omega
  | @trap k n h => simp only [htS, htSl, htEl, nSt, nStl, z]; omega
theorem nSt_le {l : List Stm} {s : Stm} (h : s ∈ l) : nSt s ≤ nStl l := by
  induction l with
  | nil => cases h
  | cons a r ih =>
    simp only [nStl]
    rcases List.mem_cons.1 h with rfl | h
    · omega
    · have := ih h; omega
theorem Read.low (R : Read b1 b2 v1 v2 la lb) {ls : List (List UInt8)} {nm nm2 : List UInt8} {x : List Stm} {v : Exp} {za zb : Int} (hl : ls.length ≤ 100) (hx : ∀ s ∈ x, htS s ≤ 1000) (hxl : x.length ≤ 10) (hv : htE v ≤ 1000) : LowP (prg za zb (mkF nm ls (b1 ++ x) v) ⟨nm2, [[110]], [[105]], b2, v2⟩) := by
  have z : (2 : Nat) < 2305843009213693952 := by decide
  have o : (1 : Nat) < 2305843009213693952 := by decide
  have hn := R.hn
  refine ⟨z, z, fun f hf => ?_⟩
  have hf : f = mkF nm ls (b1 ++ x) v ∨ f = ⟨nm2, [[110]], [[105]], b2, v2⟩ := by simpa [prg] using hf
  rcases hf with rfl | rfl
  · refine ⟨⟨Nat.lt_of_le_of_lt hv (by decide), fun s hs => ?_, ?_⟩, z, Nat.lt_of_le_of_lt hl (by decide)⟩
    · have hs : s ∈ b1 ++ x := hs
      rcases List.mem_append.1 hs with h | h
      · have h1 := (R.hb1 s h).ht; have h2 := nSt_le h; omega
      · have := hx s h; omega
    · show (b1 ++ x).length < _
      have := R.hl1
      rw [List.length_append]; omega
  · refine ⟨⟨?_, fun s hs => ?_, ?_⟩, o, o⟩
    · have := R.hv2.ht4 (by omega)
      show htE v2 < _
      omega
    · have hs : s ∈ b2 := hs
      have h1 := (R.hb2 s hs).ht; have h2 := nSt_le hs; omega
    · show b2.length < _
      have := R.hl2; omega
theorem Read.low0 (R : Read b1 b2 v1 v2 la lb) {ls : List (List UInt8)} {nm nm2 : List UInt8} {v : Exp} {za zb : Int} (hl : ls.length ≤ 100) (hv : htE v ≤ 1000) : LowP (prg za zb (mkF nm ls b1 v) ⟨nm2, [[110]], [[105]], b2, v2⟩) := by
  have := R.low (nm := nm) (nm2 := nm2) (za := za) (zb := zb) (x := []) hl (fun _ h => by cases h) (by simp) hv
  rwa [List.append_nil] at this
end
end Go.Proofs.Ytceakkomleaibaa
