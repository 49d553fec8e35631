/-
  SORTING (InterpSorts) in plain Lean: what the program that sorts three words comes to. Written in this session.
-/
import Derived.Test.YtnhobbjbgljpnaaMz
import Derived.Test.YtnhobbjbgljpnaaPc
import Derived.KernelRfl
namespace Go.Proofs.Ytnhobbjbgljpnaa
open Go.Ea
set_option maxRecDepth 100000
set_option linter.unusedVariables false
set_option linter.unusedSimpArgs false
def soV (s : List UInt8) : Exp := .mk 2 0 s 0 []
def soN (n : Int) : Exp := .mk 1 n [] 0 []
def soZ : Exp := .mk 0 0 [] 0 []
def soB (o : Int) (a b : Exp) : Exp := .mk 4 0 [] o [a, b]
def soA (e : Exp) : Exp := .mk 3 0 [97] 0 [e]
def soT (e v : Exp) : Stm := .mk 2 [97] [] 0 e v [] [] []
def soS (s : List UInt8) (v : Exp) : Stm := .mk 1 s [] 0 soZ v [] [] []
def soJ1 : Exp := soB 4 (soV [106]) (soN 1)
def soThn : List Stm := [soS [116] (soA (soV [106])), soT (soV [106]) (soA soJ1), soT soJ1 (soV [116])]
def soIf : Stm := .mk 3 [] [] 0 soZ (soB 17 (soA soJ1) (soA (soV [106]))) [] soThn []
def soJ : Stm := soS [106] soJ1
def soIn : Stm := .mk 4 [] [] 0 soZ (soB 17 (soV [106]) (soN 2)) [] [soIf, soJ] []
def soI : Stm := soS [105] (soB 4 (soV [105]) (soN 1))
def soOut : Stm := .mk 4 [] [] 0 soZ (soB 17 (soV [105]) (soN 3)) [] [soS [106] (soN 0), soIn, soI] []
def soO (n : Int) : Stm := .mk 5 [] [] 0 soZ (soA (soN n)) [] [] []
def soF : Fn1 := ⟨[102], [[120], [121], [122]], [[105], [106], [116]], [soT (soN 0) (soV [120]), soT (soN 1) (soV [121]), soT (soN 2) (soV [122])] ++ ([soOut] ++ [soO 0, soO 1, soO 2]), soN 0⟩
theorem pc_is : pcP = ⟨[⟨[97], 3⟩], [soF]⟩ := rfl
theorem pc_chk : chkS pcP = 0 := by decide +kernel
theorem pc_low : LowP pcP := lowB_ok (by decide +kernel)
structure So (s : St) (F : Nat) (i j : Int) (l : List Int) (out : List Int) : Prop where
  c : s.c = ⟨F, 0, 0⟩
  a : s.A [97] = l
  i : s.f [105] = i
  j : s.f [106] = j
  o : s.out = out
def soSt (F : Nat) (A : Arrs) (f : Vars) (i j : Int) (l out : List Int) : St := ⟨⟨F, 0, 0⟩, upd1 A [97] l, upd1 (upd1 f [106] j) [105] i, out⟩
variable {s : St} {F : Nat} {i j u v w : Int} {l out : List Int}
theorem So.norm (h : So s F i j l out) : s = soSt F s.A s.f i j l out := by
  obtain ⟨c, A, f, o⟩ := s
  obtain ⟨rfl, rfl, rfl, rfl, rfl⟩ := h
  have e1 : upd1 A [97] (A [97]) = A := by
    funext t
    show (if t = [97] then A [97] else A t) = A t
    split
    · rename_i h; rw [h]
    · rfl
  have e2 : upd1 (upd1 f [106] (f [106])) [105] (f [105]) = f := by
    funext t
    show (if t = [105] then f [105] else if t = [106] then f [106] else f t) = f t
    split
    · rename_i h; rw [h]
    · split
      · rename_i h; rw [h]
      · rfl
  show _ = (⟨_, upd1 A [97] (A [97]), upd1 (upd1 f [106] (f [106])) [105] (f [105]), _⟩ : St)
  rw [e1, e2]
theorem So.mk' (F : Nat) (A : Arrs) (f : Vars) (i j : Int) (l out : List Int) : So (soSt F A f i j l out) F i j l out := ⟨rfl, rfl, rfl, rfl, rfl⟩
theorem so_bin {A : Arrs} {f : Vars} {o : Int} {a b : Exp} {c : Ctl} (h0 : c.en = 0) (ho : ¬ (o = 7 ∨ o = 8)) : evX A f (soB o a b) c = ((evX A f b (evX A f a c).1).1, binW o (evX A f a c).2 (evX A f b (evX A f a c).1).2) := by
  unfold soB
  rw [evX.eq_def]
  simp only []
  rw [if_neg (by rw [h0]; decide), if_neg (by decide), if_neg (by decide), if_neg (by decide), if_neg (by decide), if_neg (fun h => ho h.2)]
theorem so_if0 (fs : List UInt8 → Option Fn1) (h : So s F i 0 [u, v, w] out) : So (exS fs soIf s) F i 0 [min u v, max u v, w] out := by
  rw [h.norm]
  generalize s.A = A
  generalize s.f = f
  have e1 : evX (upd1 A [97] [u, v, w]) (upd1 (upd1 f [106] 0) [105] i) (soA soJ1) ⟨F, 0, 0⟩ = (⟨F, 0, 0⟩, v) := evB_ok 6 (by kernel_rfl)
  have e2 : evX (upd1 A [97] [u, v, w]) (upd1 (upd1 f [106] 0) [105] i) (soA (soV [106])) ⟨F, 0, 0⟩ = (⟨F, 0, 0⟩, u) := evB_ok 6 (by kernel_rfl)
  unfold soIf soSt
  rw [exS_if]
  simp only []
  rw [so_bin rfl (by decide), e1]
  simp only []
  rw [e2]
  simp only []
  have e3 : binW 17 v u = truS (decide (v < u)) := by kernel_rfl
  rw [e3]
  by_cases q : v < u
  · rw [decide_eq_true q, if_pos (by decide)]
    have e4 : exL fs soThn ⟨⟨F, 0, 0⟩, upd1 A [97] [u, v, w], upd1 (upd1 f [106] 0) [105] i, out⟩ = ⟨⟨F, 0, 0⟩, upd1 (upd1 (upd1 A [97] [u, v, w]) [97] [v, v, w]) [97] [v, u, w], upd1 (upd1 (upd1 f [106] 0) [105] i) [116] u, out⟩ := lsB_ok (n := 12) (by kernel_rfl)
    rw [e4, show min u v = v by omega, show max u v = u by omega]
    exact ⟨rfl, rfl, rfl, rfl, rfl⟩
  · rw [decide_eq_false q, if_neg (by decide), exL_nil, show min u v = u by omega, show max u v = v by omega]
    exact ⟨rfl, rfl, rfl, rfl, rfl⟩
theorem so_if1 (fs : List UInt8 → Option Fn1) (h : So s F i 1 [u, v, w] out) : So (exS fs soIf s) F i 1 [u, min v w, max v w] out := by
  rw [h.norm]
  generalize s.A = A
  generalize s.f = f
  have e1 : evX (upd1 A [97] [u, v, w]) (upd1 (upd1 f [106] 1) [105] i) (soA soJ1) ⟨F, 0, 0⟩ = (⟨F, 0, 0⟩, w) := evB_ok 6 (by kernel_rfl)
  have e2 : evX (upd1 A [97] [u, v, w]) (upd1 (upd1 f [106] 1) [105] i) (soA (soV [106])) ⟨F, 0, 0⟩ = (⟨F, 0, 0⟩, v) := evB_ok 6 (by kernel_rfl)
  unfold soIf soSt
  rw [exS_if]
  simp only []
  rw [so_bin rfl (by decide), e1]
  simp only []
  rw [e2]
  simp only []
  have e3 : binW 17 w v = truS (decide (w < v)) := by kernel_rfl
  rw [e3]
  by_cases q : w < v
  · rw [decide_eq_true q, if_pos (by decide)]
    have e4 : exL fs soThn ⟨⟨F, 0, 0⟩, upd1 A [97] [u, v, w], upd1 (upd1 f [106] 1) [105] i, out⟩ = ⟨⟨F, 0, 0⟩, upd1 (upd1 (upd1 A [97] [u, v, w]) [97] [u, w, w]) [97] [u, w, v], upd1 (upd1 (upd1 f [106] 1) [105] i) [116] v, out⟩ := lsB_ok (n := 12) (by kernel_rfl)
    rw [e4, show min v w = w by omega, show max v w = v by omega]
    exact ⟨rfl, rfl, rfl, rfl, rfl⟩
  · rw [decide_eq_false q, if_neg (by decide), exL_nil, show min v w = v by omega, show max v w = w by omega]
    exact ⟨rfl, rfl, rfl, rfl, rfl⟩
theorem stB_ok {fs : List UInt8 → Option Fn1} {n : Nat} {x : Stm} {s r : St} (h : stB fs n x s = some r) : exS fs x s = r := (exB_ok fs n).1 h
theorem so_j0 (fs : List UInt8 → Option Fn1) (h : So s F i 0 l out) : So (exS fs soJ s) F i 1 l out := by
  rw [h.norm]
  generalize s.A = A
  generalize s.f = f
  have e : exS fs soJ (soSt F A f i 0 l out) = ⟨⟨F, 0, 0⟩, upd1 A [97] l, upd1 (upd1 (upd1 f [106] 0) [105] i) [106] 1, out⟩ := stB_ok (n := 8) (by kernel_rfl)
  rw [e]; exact ⟨rfl, rfl, rfl, rfl, rfl⟩
theorem so_j1 (fs : List UInt8 → Option Fn1) (h : So s F i 1 l out) : So (exS fs soJ s) F i 2 l out := by
  rw [h.norm]
  generalize s.A = A
  generalize s.f = f
  have e : exS fs soJ (soSt F A f i 1 l out) = ⟨⟨F, 0, 0⟩, upd1 A [97] l, upd1 (upd1 (upd1 f [106] 1) [105] i) [106] 2, out⟩ := stB_ok (n := 8) (by kernel_rfl)
  rw [e]; exact ⟨rfl, rfl, rfl, rfl, rfl⟩
theorem so_z (fs : List UInt8 → Option Fn1) (h : So s F i j l out) : So (exS fs (soS [106] (soN 0)) s) F i 0 l out := by
  rw [h.norm]
  generalize s.A = A
  generalize s.f = f
  have e : exS fs (soS [106] (soN 0)) (soSt F A f i j l out) = ⟨⟨F, 0, 0⟩, upd1 A [97] l, upd1 (upd1 (upd1 f [106] j) [105] i) [106] 0, out⟩ := stB_ok (n := 8) (by kernel_rfl)
  rw [e]; exact ⟨rfl, rfl, rfl, rfl, rfl⟩
theorem So.tick (h : So s (F + 1) i j l out) : So { s with c := tickS s.c } F i j l out := ⟨by show tickS s.c = _; rw [h.c]; rfl, h.a, h.i, h.j, h.o⟩
theorem So.en (h : So s F i j l out) : ¬ s.c.en ≠ 0 := by rw [h.c]; simp
theorem St.same (s : St) : ({ s with c := s.c } : St) = s := rfl
/-- One turn of a loop. -/
theorem so_turn (fs : List UInt8 → Option Fn1) {e : Exp} {body : List Stm} (h : So s (F + 1) i j l out) (he : evX s.A s.f e s.c = (s.c, 1)) :
    exS fs (.mk 4 [] [] 0 soZ e [] body []) s = exS fs (.mk 4 [] [] 0 soZ e [] body []) (exL fs body { s with c := tickS s.c }) := by
  rw [exS_while, he]
  simp only []
  rw [if_pos ⟨by decide, by rw [h.c]⟩, if_pos (by rw [h.c]; rfl)]
theorem so_stop (fs : List UInt8 → Option Fn1) {e : Exp} {body : List Stm} (he : evX s.A s.f e s.c = (s.c, 0)) : exS fs (.mk 4 [] [] 0 soZ e [] body []) s = s := by
  rw [exS_while, he]
  simp only []
  rw [if_neg (fun h => h.1 rfl)]
theorem so_cj (h : So s F i j l out) (n : Int) (b : Int) (hb : binW 17 j n = b) : evX s.A s.f (soB 17 (soV [106]) (soN n)) s.c = (s.c, b) := by
  rw [so_bin (by rw [h.c]) (by decide)]
  have e1 : evX s.A s.f (soV [106]) s.c = (s.c, j) := by rw [h.c]; exact evB_ok 3 (by show some (_, s.f [106]) = _; rw [h.j])
  have e2 : evX s.A s.f (soN n) s.c = (s.c, n) := by rw [h.c]; exact evB_ok 3 (by rfl)
  rw [e1]; simp only []; rw [e2]; simp only []; rw [hb]
theorem so_ci (h : So s F i j l out) (n : Int) (b : Int) (hb : binW 17 i n = b) : evX s.A s.f (soB 17 (soV [105]) (soN n)) s.c = (s.c, b) := by
  rw [so_bin (by rw [h.c]) (by decide)]
  have e1 : evX s.A s.f (soV [105]) s.c = (s.c, i) := by rw [h.c]; exact evB_ok 3 (by show some (_, s.f [105]) = _; rw [h.i])
  have e2 : evX s.A s.f (soN n) s.c = (s.c, n) := by rw [h.c]; exact evB_ok 3 (by rfl)
  rw [e1]; simp only []; rw [e2]; simp only []; rw [hb]
theorem so_in (fs : List UInt8 → Option Fn1) (h : So s (F + 2) i 0 [u, v, w] out) : So (exS fs soIn s) F i 2 [min u v, min (max u v) w, max (max u v) w] out := by
  unfold soIn
  rw [so_turn fs h (so_cj h 2 1 (by decide +kernel))]
  have h1 : So _ (F + 1) i 0 _ out := so_if0 fs h.tick
  have h2 := so_j0 fs h1
  have e1 : exL fs [soIf, soJ] { s with c := tickS s.c } = exS fs soJ (exS fs soIf { s with c := tickS s.c }) := by rw [exL_cons, if_neg h.tick.en, exL_cons, if_neg h1.en, exL_nil]
  rw [e1]
  generalize exS fs soJ (exS fs soIf { s with c := tickS s.c }) = s1 at h2 ⊢
  rw [so_turn fs h2 (so_cj h2 2 1 (by decide +kernel))]
  have h3 : So _ F i 1 _ out := so_if1 fs h2.tick
  have h4 := so_j1 fs h3
  have e2 : exL fs [soIf, soJ] { s1 with c := tickS s1.c } = exS fs soJ (exS fs soIf { s1 with c := tickS s1.c }) := by rw [exL_cons, if_neg h2.tick.en, exL_cons, if_neg h3.en, exL_nil]
  rw [e2]
  generalize exS fs soJ (exS fs soIf { s1 with c := tickS s1.c }) = s2 at h4 ⊢
  rw [so_stop fs (so_cj h4 2 0 (by decide +kernel))]
  exact h4
theorem so_i (fs : List UInt8 → Option Fn1) (h : So s F i j l out) (i' : Int) (hi : binW 4 i 1 = i') : So (exS fs soI s) F i' j l out := by
  have e1 : evX s.A s.f (soB 4 (soV [105]) (soN 1)) s.c = (s.c, i') := by
    rw [so_bin (by rw [h.c]) (by decide)]
    have e1 : evX s.A s.f (soV [105]) s.c = (s.c, i) := by rw [h.c]; exact evB_ok 3 (by show some (_, s.f [105]) = _; rw [h.i])
    have e2 : evX s.A s.f (soN 1) s.c = (s.c, 1) := by rw [h.c]; exact evB_ok 3 (by rfl)
    rw [e1]; simp only []; rw [e2]; simp only []; rw [hi]
  unfold soI soS
  rw [exS_assign, e1]
  exact ⟨h.c, h.a, rfl, h.j, h.o⟩
theorem so_out (fs : List UInt8 → Option Fn1) (h : So s (F + 3) i j [u, v, w] out) (i' : Int) (h3 : binW 17 i 3 = 1) (hi : binW 4 i 1 = i') : ∃ s', exS fs soOut s = exS fs soOut s' ∧ So s' F i' 2 [min u v, min (max u v) w, max (max u v) w] out := by
  have h1 := so_z fs h.tick
  have h2 := so_in fs h1
  have h4 := so_i fs h2 i' hi
  refine ⟨_, ?_, h4⟩
  unfold soOut
  rw [so_turn fs h (so_ci h 3 1 h3)]
  rw [exL_cons, if_neg h.tick.en, exL_cons, if_neg h1.en, exL_cons, if_neg h2.en, exL_nil]
theorem exL_app (fs : List UInt8 → Option Fn1) : ∀ (a b : List Stm) (s : St), exL fs (a ++ b) s = exL fs b (exL fs a s)
  | [], b, s => by rw [exL_nil]; rfl
  | x :: r, b, s => by
    rw [List.cons_append, exL_cons, exL_cons]
    by_cases q : s.c.en ≠ 0
    · rw [if_pos q, if_pos q, exL_stop q]
    · rw [if_neg q, if_neg q, exL_app fs r b]
/-! ### the words -/
def so3 (u v w : Int) : Int := binW 11 (binW 11 u v) w
theorem wrap64_eq' (n : Int) : wrapA .i64 n = if 9223372036854775808 ≤ n % 18446744073709551616 then n % 18446744073709551616 - 18446744073709551616 else n % 18446744073709551616 := by
  rw [wrapA_eq, wrap_num .i64 n 18446744073709551616 9223372036854775808 (by decide) (by decide)]
  simp [show IntKind.i64.signed = true from rfl]
theorem so3_eq (u v w : Int) : so3 u v w = IntKind.i64.wrap ((BitVec.ofInt 64 u ^^^ BitVec.ofInt 64 v) ^^^ BitVec.ofInt 64 w).toNat := by
  have e : ∀ x y : Int, binW 11 x y = IntKind.i64.wrap (BitVec.ofInt 64 x ^^^ BitVec.ofInt 64 y).toNat := fun x y => rfl
  have r : ∀ b : BitVec 64, BitVec.ofInt 64 (IntKind.i64.wrap b.toNat) = b := by
    intro b
    apply BitVec.eq_of_toNat_eq
    rw [BitVec.toNat_ofInt, ← wrapA_eq, wrap64_eq']
    have := b.isLt
    split <;> omega
  unfold so3
  rw [e, e, r]
theorem so3_01 (u v w : Int) : so3 (min u v) (max u v) w = so3 u v w := by
  by_cases h : u ≤ v
  · rw [show min u v = u by omega, show max u v = v by omega]
  · rw [show min u v = v by omega, show max u v = u by omega, so3_eq, so3_eq, BitVec.xor_comm (BitVec.ofInt 64 v)]
theorem so3_12 (u v w : Int) : so3 u (min v w) (max v w) = so3 u v w := by
  by_cases h : v ≤ w
  · rw [show min v w = v by omega, show max v w = w by omega]
  · rw [show min v w = w by omega, show max v w = v by omega, so3_eq, so3_eq, BitVec.xor_assoc, BitVec.xor_assoc, BitVec.xor_comm (BitVec.ofInt 64 w)]
theorem sort_law (a b c : Int) : ∃ x y z : Int, runS pcP [102] [a, b, c] ((20 : Nat) : Int) = ⟨1, 0, [x, y, z], 0⟩ ∧ x ≤ y ∧ y ≤ z ∧ x = min a (min b c) ∧ z = max a (max b c) ∧ binW 11 (binW 11 a b) c = binW 11 (binW 11 x y) z := by
  have h0 : So (exL (fnOf pcP) [soT (soN 0) (soV [120]), soT (soN 1) (soV [121]), soT (soN 2) (soV [122])] ⟨⟨20, 0, 0⟩, arr0 pcP.arrays, bind soF.params [a, b, c], []⟩) 20 0 0 [a, b, c] [] := by
    have e : exL (fnOf pcP) [soT (soN 0) (soV [120]), soT (soN 1) (soV [121]), soT (soN 2) (soV [122])] ⟨⟨20, 0, 0⟩, arr0 pcP.arrays, bind soF.params [a, b, c], []⟩ = ⟨⟨20, 0, 0⟩, upd1 (upd1 (upd1 (arr0 pcP.arrays) [97] [a, 0, 0]) [97] [a, b, 0]) [97] [a, b, c], bind soF.params [a, b, c], []⟩ := lsB_ok (n := 10) (by kernel_rfl)
    rw [e]; exact ⟨rfl, rfl, rfl, rfl, rfl⟩
  obtain ⟨s1, e1, h1⟩ := so_out (fnOf pcP) (F := 17) h0 1 (by decide +kernel) (by decide +kernel)
  obtain ⟨s2, e2, h2⟩ := so_out (fnOf pcP) (F := 14) h1 2 (by decide +kernel) (by decide +kernel)
  obtain ⟨s3, e3, h3⟩ := so_out (fnOf pcP) (F := 11) h2 3 (by decide +kernel) (by decide +kernel)
  have e4 : exS (fnOf pcP) soOut s3 = s3 := by unfold soOut; exact so_stop _ (so_ci h3 3 0 (by decide +kernel))
  have fin : ∀ {x y z : Int}, So s3 11 3 2 [x, y, z] [] → exL (fnOf pcP) [soO 0, soO 1, soO 2] s3 = ⟨⟨11, 0, 0⟩, s3.A, s3.f, [x, y, z]⟩ := by
    intro x y z h
    have hn := h.norm
    have e : exL (fnOf pcP) [soO 0, soO 1, soO 2] (soSt 11 s3.A s3.f 3 2 [x, y, z] []) = ⟨⟨11, 0, 0⟩, upd1 s3.A [97] [x, y, z], upd1 (upd1 s3.f [106] 2) [105] 3, [x, y, z]⟩ := lsB_ok (n := 10) (by kernel_rfl)
    rw [← hn] at e
    rw [e]
    have q1 := congrArg St.A hn
    have q2 := congrArg St.f hn
    change s3.A = upd1 s3.A [97] [x, y, z] at q1
    change s3.f = upd1 (upd1 s3.f [106] 2) [105] 3 at q2
    rw [← q1, ← q2]
  have en : ∀ {x y z : Int}, So s3 11 3 2 [x, y, z] [] → ocS pcP soF [a, b, c] 20 = ⟨1, 0, [x, y, z], 0⟩ := by
    intro x y z h
    have e : endS pcP soF [a, b, c] 20 = ⟨⟨11, 0, 0⟩, s3.A, s3.f, [x, y, z]⟩ := by
      unfold endS
      show exL (fnOf pcP) ([soT (soN 0) (soV [120]), soT (soN 1) (soV [121]), soT (soN 2) (soV [122])] ++ ([soOut] ++ [soO 0, soO 1, soO 2])) _ = _
      rw [exL_app, exL_app]
      have e5 : exL (fnOf pcP) [soOut] (exL (fnOf pcP) [soT (soN 0) (soV [120]), soT (soN 1) (soV [121]), soT (soN 2) (soV [122])] ⟨⟨20, 0, 0⟩, arr0 pcP.arrays, bind soF.params [a, b, c], []⟩) = s3 := by
        rw [exL_cons, if_neg h0.en, exL_nil, e1, e2, e3, e4]
      rw [e5, fin h]
    unfold ocS endV
    rw [e]
    have ev : evX s3.A s3.f soF.value ⟨11, 0, 0⟩ = (⟨11, 0, 0⟩, 0) := evB_ok 3 (by kernel_rfl)
    simp only [ev]
    rfl
  refine ⟨_, _, _, (runS_of (g := soF) pc_chk (by decide) rfl rfl).trans (en h3), by omega, by omega, by omega, by omega, ?_⟩
  show so3 a b c = so3 _ _ _
  rw [so3_12, so3_01, so3_12, so3_01, so3_12, so3_01]
end Go.Proofs.Ytnhobbjbgljpnaa
