/-
  PLAIN LAWS of the scanner: positions, gaps, names, texts spaced anew, two texts joined. No program in sight. Written in this session.
-/
import Derived.Test.YteknebkgpehphaaLa
namespace Go.Proofs.Yteknebkgpehphaa
open Go.Ea
set_option linter.unusedVariables false
set_option linter.unusedSimpArgs false

/-! ### errors -/
theorem scanG_errAt : ∀ (f : Nat) (s : List UInt8) (p : Nat), ¬ (scanG f s p).2.1 = 0 → (scanG f s p).2.2 < p + s.length
  | 0, s, p, h => absurd rfl h
  | f + 1, s, p, h => by
    by_cases h0 : s.length = 0
    · rw [scanG_end h0] at h; exact absurd rfl h
    · by_cases he : (firstS s).2.2 = 0
      · rw [scanG_ok h0 he] at h ⊢
        have key : ∀ x : List Tok × Nat × Nat, (appT [⟨(firstS s).1, (firstS s).2.1, p⟩] x).2 = x.2 := fun x => by unfold appT; split <;> rfl
        rw [key] at h ⊢
        have h1 := firstS_len (by omega) he
        have h2 := spL_le (s.drop (firstS s).2.1.length) false
        rw [List.length_drop] at h2
        have := scanG_errAt f _ _ h
        rw [List.length_drop] at this
        omega
      · rw [scanG_err h0 he]; simp only []; omega
theorem scanS_err {s : List UInt8} (hs : s.length ≤ 20000) (h : ¬ (scanS s).2.1 = 0) : (scanS s).1 = [] ∧ (scanS s).2.2 < s.length := by
  have e : scanS s = scanG s.length (s.drop (spL false s)) (spL false s) := by unfold scanS; rw [if_neg (by omega)]
  rw [e] at h ⊢
  refine ⟨scanG_ok0 _ _ _ h, ?_⟩
  have := scanG_errAt _ _ _ h
  have h2 := spL_le s false
  rw [List.length_drop] at this; omega

/-! ### gaps -/
def blankG : Bool → List UInt8 → Bool
  | _, [] => true
  | i, b :: r => if b = 10 then blankG false r else if b = 35 then blankG true r else if i = false ∧ b ≠ 32 ∧ b ≠ 9 ∧ b ≠ 13 then false else blankG i r
theorem blank_sp : ∀ (s : List UInt8) (c : Bool), blankG c (s.take (spL c s)) = true
  | [], c => by cases c <;> rfl
  | b :: r, c => by
    have h1 := blank_sp r true; have h2 := blank_sp r false
    cases c with
    | false =>
      simp only [spL]
      split
      · rename_i hb
        rw [List.take_succ_cons]
        simp only [blankG]
        simp only [spB, Bool.or_eq_true, beq_iff_eq] at hb
        split
        · exact h2
        · split
          · subst_vars; simp at hb
          · rw [if_neg (by rintro ⟨_, g1, g2, g3⟩; rcases hb with h | h | h | h <;> contradiction)]; exact h2
      · split
        · subst_vars
          rw [List.take_succ_cons]
          simp only [blankG]
          rw [if_neg (by decide), if_pos trivial]; exact h1
        · rfl
    | true =>
      simp only [spL]
      split
      · subst_vars
        rw [List.take_succ_cons]
        simp only [blankG, if_true]; exact h2
      · rename_i hb
        rw [List.take_succ_cons]
        simp only [blankG]
        rw [if_neg hb]
        split
        · exact h1
        · rw [if_neg (by simp)]; exact h1
theorem firstS_pre {s : List UInt8} (h : 0 < s.length) (he : (firstS s).2.2 = 0) : s.take (firstS s).2.1.length = (firstS s).2.1 := by
  have h1 := wl_le s
  have h2 := symL_le h
  have key : ∀ n, n ≤ s.length → s.take (s.take n).length = s.take n := fun n hn => by rw [List.length_take, Nat.min_eq_left hn]
  unfold firstS at he ⊢
  (repeat' split) <;> simp_all
def Chain (s : List UInt8) : Nat → List Tok → Prop
  | q, [] => q ≤ s.length ∧ blankG false (s.drop q) = true
  | q, t :: r => q ≤ t.pos ∧ t.text ≠ [] ∧ t.pos + t.text.length ≤ s.length ∧ (s.take (t.pos + t.text.length)).drop t.pos = t.text ∧ blankG false ((s.take t.pos).drop q) = true ∧ Chain s (t.pos + t.text.length) r
theorem chain_scan {s : List UInt8} : ∀ (f q p : Nat), q ≤ s.length → p = q + spL false (s.drop q) → s.length - p ≤ f → (scanG f (s.drop p) p).2.1 = 0 → Chain s q (scanG f (s.drop p) p).1 := by
  intro f
  induction f with
  | zero =>
    intro q p hq hp hf _
    have h1 := spL_le (s.drop q) false
    rw [List.length_drop] at h1
    refine ⟨hq, ?_⟩
    have := blank_sp (s.drop q) false
    rw [List.take_of_length_le (by rw [List.length_drop]; omega)] at this
    exact this
  | succ f ih =>
    intro q p hq hp hf h
    have h1 := spL_le (s.drop q) false
    rw [List.length_drop] at h1
    by_cases h0 : (s.drop p).length = 0
    · rw [scanG_end h0]
      rw [List.length_drop] at h0
      refine ⟨hq, ?_⟩
      have := blank_sp (s.drop q) false
      rw [List.take_of_length_le (by rw [List.length_drop]; omega)] at this
      exact this
    · by_cases he : (firstS (s.drop p)).2.2 = 0
      · have h2 := firstS_len (by omega) he
        have h3 := firstS_pre (by omega) he
        have hl : (s.drop p).length = s.length - p := List.length_drop
        rw [scanG_ok h0 he] at h ⊢
        rw [List.drop_drop, List.drop_drop, ← Nat.add_assoc] at h ⊢
        unfold appT at h ⊢
        split at h
        · rename_i hi
          rw [if_pos hi]
          refine ⟨by (show q ≤ p); omega, fun e => by rw [show (firstS (s.drop p)).2.1 = [] from e] at h2; simp at h2, by (show p + (firstS (s.drop p)).2.1.length ≤ _); omega, ?_, ?_, ih (p + (firstS (s.drop p)).2.1.length) _ (by omega) rfl (by omega) hi⟩
          · show (s.take (p + (firstS (s.drop p)).2.1.length)).drop p = (firstS (s.drop p)).2.1
            rw [List.drop_take, show p + (firstS (s.drop p)).2.1.length - p = (firstS (s.drop p)).2.1.length from by omega]
            exact h3
          · show blankG false ((s.take p).drop q) = true
            rw [List.drop_take, hp, show q + spL false (s.drop q) - q = spL false (s.drop q) from by omega]
            exact blank_sp _ _
        · rename_i hi
          exact absurd h hi
      · rw [scanG_err h0 he] at h; exact absurd h he
theorem scanS_chain {s : List UInt8} (h : (scanS s).2.1 = 0) : Chain s 0 (scanS s).1 := by
  unfold scanS at h ⊢
  split at h
  · cases h
  · rename_i hs
    rw [if_neg hs]
    exact chain_scan s.length 0 (spL false s) (Nat.zero_le _) (by simp) (by omega) h

/-! ### names -/
theorem wl_all : ∀ {s : List UInt8}, (∀ b ∈ s, (isL b || isD b) = true) → wl s = s.length
  | [], _ => rfl
  | b :: r, h => by
    simp only [wl, h b (by simp), if_true, List.length_cons]
    rw [wl_all fun c hc => h c (by simp [hc])]
theorem sp0 {b : UInt8} {r : List UInt8} (h1 : spB b = false) (h2 : b ≠ 35) : spL false (b :: r) = 0 := by
  simp only [spL, h1, Bool.false_eq_true, if_false, if_neg h2]
theorem first_plus (s : List UInt8) : firstS (43 :: s) = (3, [43], 0) := by
  have h1 : wl (43 :: s) = 0 := by
    have : (isL 43 || isD 43) = false := by decide
    simp [wl, this]
  have h2 : symL (43 :: s) = 1 := by
    have h3 : longS.find? (fun w => decide ((43 :: s).take w.length = w)) = none := by
      rw [List.find?_eq_none]; intro w hw
      simp only [longS, List.mem_cons, List.not_mem_nil, or_false] at hw
      rcases hw with rfl | rfl | rfl | rfl | rfl | rfl | rfl <;> simp [List.take_succ_cons]
    unfold symL
    rw [h3]
    simp [singleS]
  unfold firstS
  rw [if_pos h1, if_neg (by omega), h2]; rfl
theorem scan_name {s : List UInt8} (hs : s.length ≤ 19000) (h : ∀ b ∈ s, (isL b || isD b) = true) (h0 : s[0]? = some 110) :
    scanS (43 :: s) = if 16 < s.length then ([], 6, 1) else ([⟨3, [43], 0⟩, ⟨1, s, 1⟩], 0, 0) := by
  obtain ⟨r, rfl⟩ : ∃ r, s = 110 :: r := by
    cases s with
    | nil => simp at h0
    | cons a l => simp at h0; exact ⟨l, by rw [h0]⟩
  have hw := wl_all h
  have e1 : spL false (43 :: 110 :: r) = 0 := sp0 (by decide) (by decide)
  have e2 : spL false (110 :: r) = 0 := sp0 (by decide) (by decide)
  unfold scanS
  rw [if_neg (by simp only [List.length_cons] at hs ⊢; omega), e1, List.drop_zero]
  simp only [List.length_cons] at hw hs ⊢
  rw [scanG_ok (by simp) (by rw [first_plus]), first_plus]
  simp only [List.length_cons, List.length_nil, List.drop_succ_cons, List.drop_zero, e2, Nat.zero_add, Nat.add_zero]
  have hd : isD ((110 :: r : List UInt8).headD 0) = false := rfl
  by_cases hl : 16 < r.length + 1
  · rw [if_pos hl, scanG_err (by simp)]
    · have : firstS (110 :: r) = (0, [], 6) := by
        unfold firstS; rw [if_neg (by omega), if_neg (by rw [hd]; simp), if_pos (by omega)]
      rw [this]; unfold appT; rfl
    · have : firstS (110 :: r) = (0, [], 6) := by
        unfold firstS; rw [if_neg (by omega), if_neg (by rw [hd]; simp), if_pos (by omega)]
      rw [this]; simp
  · rw [if_neg hl]
    have : firstS (110 :: r) = (1, 110 :: r, 0) := by
      unfold firstS; rw [if_neg (by omega), if_neg (by rw [hd]; simp), if_neg (by omega), hw]
      rw [List.take_of_length_le (by simp)]
    rw [scanG_ok (by simp) (by rw [this]), this]
    simp only [List.length_cons]
    rw [scanG_end (by simp)]
    unfold appT; rfl

/-! ### tokens that are spaced anew -/
def Good (t : Tok) : Prop := ∃ u : List UInt8, 0 < u.length ∧ (firstS u).2.2 = 0 ∧ t.kind = (firstS u).1 ∧ t.text = (firstS u).2.1
theorem good_scan : ∀ (f : Nat) (s : List UInt8) (p : Nat), (scanG f s p).2.1 = 0 → ∀ t ∈ (scanG f s p).1, Good t
  | 0, s, p, _, t, ht => by cases ht
  | f + 1, s, p, h, t, ht => by
    by_cases h0 : s.length = 0
    · rw [scanG_end h0] at ht; cases ht
    · by_cases he : (firstS s).2.2 = 0
      · rw [scanG_ok h0 he] at h ht
        unfold appT at h ht
        split at h
        · rename_i hi
          rw [if_pos hi] at ht
          rcases List.mem_append.1 ht with ht | ht
          · simp only [List.mem_singleton] at ht; subst ht
            exact ⟨s, by omega, he, rfl, rfl⟩
          · exact good_scan f _ _ hi t ht
        · rename_i hi; exact absurd h hi
      · rw [scanG_err h0 he] at h; exact absurd h he
theorem wl_app : ∀ {t : List UInt8} {b : UInt8} {r : List UInt8}, (∀ c ∈ t, (isL c || isD c) = true) → (isL b || isD b) = false → wl (t ++ b :: r) = t.length
  | [], b, r, _, hb => by simp [wl, hb]
  | a :: t, b, r, h, hb => by
    rw [List.cons_append]
    simp only [wl, h a (by simp), if_true, List.length_cons]
    rw [wl_app (fun c hc => h c (by simp [hc])) hb]
theorem wl_mem : ∀ (s : List UInt8), ∀ c ∈ s.take (wl s), (isL c || isD c) = true
  | [], c, h => by simp at h
  | b :: r, c, h => by
    simp only [wl] at h
    split at h
    · rename_i hb
      rw [List.take_succ_cons] at h
      rcases List.mem_cons.1 h with rfl | h
      · exact hb
      · exact wl_mem r c h
    · simp at h
theorem sym_mem {s : List UInt8} (h : 0 < s.length) (h1 : ¬ symL s = 0) : s.take (symL s) ∈ longS ∨ ∃ x ∈ singleS, s.take (symL s) = [x] := by
  unfold symL at h1 ⊢
  split
  · rename_i w hw
    have h2 := List.find?_some hw
    simp only [decide_eq_true_eq] at h2
    rw [h2]; exact .inl (List.mem_of_find?_eq_some hw)
  · rename_i hn
    rw [hn] at h1
    simp only [] at h1
    split at h1
    · rename_i ha
      simp only [ha, if_true]
      obtain ⟨x, hx, h3⟩ := List.any_eq_true.1 ha
      simp only [decide_eq_true_eq] at h3
      refine .inr ⟨x, hx, ?_⟩
      cases s with
      | nil => simp at h
      | cons a l => simp at h3; subst h3; rfl
    · exact absurd rfl h1
theorem sym_long {w r : List UInt8} (h : w ∈ longS) : symL (w ++ 32 :: r) = w.length ∧ wl (w ++ 32 :: r) = 0 := by
  simp only [longS, List.mem_cons, List.not_mem_nil, or_false] at h
  rcases h with rfl | rfl | rfl | rfl | rfl | rfl | rfl <;> exact ⟨by simp [symL, longS, List.find?, List.take_succ_cons], by simp [wl]; decide⟩
theorem sym_one {x : UInt8} {r : List UInt8} (h : x ∈ singleS) : symL ([x] ++ 32 :: r) = 1 ∧ wl ([x] ++ 32 :: r) = 0 := by
  simp only [singleS, List.mem_cons, List.not_mem_nil, or_false] at h
  rcases h with rfl | rfl | rfl | rfl | rfl | rfl | rfl | rfl | rfl | rfl | rfl | rfl | rfl | rfl | rfl | rfl | rfl | rfl | rfl | rfl | rfl | rfl | rfl <;>
    exact ⟨by simp [symL, longS, singleS, List.find?, List.take_succ_cons], by simp [wl]; decide⟩
theorem good_first {t : Tok} (h : Good t) (r : List UInt8) : firstS (t.text ++ 32 :: r) = (t.kind, t.text, 0) := by
  obtain ⟨u, h0, he, hk, ht⟩ := h
  have hle := wl_le u
  have hle2 := symL_le h0
  unfold firstS at he hk ht
  by_cases w0 : wl u = 0
  · rw [if_pos w0] at he hk ht
    by_cases s0 : symL u = 0
    · rw [if_pos s0] at he; cases he
    · rw [if_neg s0] at hk ht
      simp only [] at hk ht
      rw [hk, ht]
      have hl : (u.take (symL u)).length = symL u := by rw [List.length_take]; omega
      have : symL (u.take (symL u) ++ 32 :: r) = symL u ∧ wl (u.take (symL u) ++ 32 :: r) = 0 := by
        rcases sym_mem h0 s0 with hm | ⟨x, hx, hm⟩
        · have := sym_long (r := r) hm
          rw [hl] at this; exact this
        · have := sym_one (r := r) hx
          rw [← hm] at this
          rw [hm] at hl; simp at hl
          rw [← hl]; rw [← hl] at this; exact this
      unfold firstS
      rw [if_pos this.2, this.1, if_neg s0, List.take_append_of_le_length (by omega), List.take_of_length_le (by omega)]
  · rw [if_neg w0] at he hk ht
    have hl : (u.take (wl u)).length = wl u := by rw [List.length_take]; omega
    have hw : wl (u.take (wl u) ++ 32 :: r) = wl u := by rw [wl_app (wl_mem u) (by decide), hl]
    have hh : (u.take (wl u) ++ 32 :: r).headD 0 = u.headD 0 := by
      cases u with
      | nil => simp at h0
      | cons a l =>
        obtain ⟨n, hn⟩ : ∃ n, wl (a :: l) = n + 1 := ⟨wl (a :: l) - 1, by omega⟩
        rw [hn]; rfl
    have htk : (u.take (wl u) ++ 32 :: r).take (wl u) = u.take (wl u) := by rw [List.take_append_of_le_length (by omega), List.take_of_length_le (by omega)]
    by_cases d : isD (u.headD 0) = true
    · rw [if_pos d] at he hk ht
      by_cases v : validN (u.take (wl u)) = true
      · rw [if_pos v] at hk ht
        simp only [] at hk ht
        rw [hk, ht]
        unfold firstS
        rw [hw, if_neg w0, hh, if_pos d, htk, if_pos v]
      · rw [if_neg v] at he; cases he
    · rw [if_neg d] at he hk ht
      by_cases l16 : 16 < wl u
      · rw [if_pos l16] at he; cases he
      · rw [if_neg l16] at hk ht
        simp only [] at hk ht
        rw [hk, ht]
        unfold firstS
        rw [hw, if_neg w0, hh, if_neg d, if_neg l16, htk]
theorem good_head {t : Tok} (h : Good t) : ∃ b l, t.text = b :: l ∧ spB b = false ∧ b ≠ 35 := by
  obtain ⟨u, h0, he, hk, ht⟩ := h
  have hle := wl_le u
  unfold firstS at he hk ht
  have hlong : ∀ w ∈ longS, ∃ b l, w = b :: l ∧ spB b = false ∧ b ≠ 35 := by
    intro w hw
    simp only [longS, List.mem_cons, List.not_mem_nil, or_false] at hw
    rcases hw with rfl | rfl | rfl | rfl | rfl | rfl | rfl <;> exact ⟨_, _, rfl, by decide, by decide⟩
  have hone : ∀ x ∈ singleS, spB x = false ∧ x ≠ 35 := by decide
  have hword : ∀ b : UInt8, (isL b || isD b) = true → spB b = false ∧ b ≠ 35 := by
    intro b hb
    have key : (List.range 256).all (fun n => !(isL (UInt8.ofNat n) || isD (UInt8.ofNat n)) || (!spB (UInt8.ofNat n) && !(UInt8.ofNat n == 35))) = true := by decide +kernel
    have := (List.all_eq_true.1 key) b.toNat (by simpa using b.toNat_lt)
    rw [show UInt8.ofNat b.toNat = b from by simp, hb] at this
    simpa using this
  have hwt : ¬ wl u = 0 → ∃ b l, u.take (wl u) = b :: l ∧ spB b = false ∧ b ≠ 35 := by
    intro w0
    have hm := wl_mem u
    cases hu : u.take (wl u) with
    | nil => have := congrArg List.length hu; rw [List.length_take, List.length_nil] at this; omega
    | cons b l => rw [hu] at hm; exact ⟨b, l, rfl, hword b (hm b (by simp))⟩
  by_cases w0 : wl u = 0
  · rw [if_pos w0] at he ht
    by_cases s0 : symL u = 0
    · rw [if_pos s0] at he; cases he
    · rw [if_neg s0] at ht
      simp only [] at ht
      rw [ht]
      rcases sym_mem h0 s0 with hm | ⟨x, hx, hm⟩
      · exact hlong _ hm
      · rw [hm]; exact ⟨x, [], rfl, hone x hx⟩
  · rw [if_neg w0] at he ht
    by_cases d : isD (u.headD 0) = true
    · rw [if_pos d] at he ht
      by_cases v : validN (u.take (wl u)) = true
      · rw [if_pos v] at ht; simp only [] at ht; rw [ht]; exact hwt w0
      · rw [if_neg v] at he; cases he
    · rw [if_neg d] at he ht
      by_cases l16 : 16 < wl u
      · rw [if_pos l16] at he; cases he
      · rw [if_neg l16] at ht; simp only [] at ht; rw [ht]; exact hwt w0
/-- The texts, each behind a space. -/
def spaced (l : List Tok) : List UInt8 := l.flatMap fun t => 32 :: t.text
theorem sp_comment : ∀ {s : List UInt8}, (∀ b ∈ s, b ≠ 10) → spL true s = s.length
  | [], _ => rfl
  | b :: r, h => by
    simp only [spL, if_neg (h b (by simp)), List.length_cons]
    rw [sp_comment fun c hc => h c (by simp [hc])]
theorem spaced_scan {note : List UInt8} (hn : ∀ b ∈ note, b ≠ 10) : ∀ (l : List Tok), (∀ t ∈ l, Good t) → ∀ (f p : Nat), (spaced l ++ [32, 35, 32] ++ note).length ≤ f →
    ∃ m : List Tok, scanG f ((spaced l ++ [32, 35, 32] ++ note).drop (spL false (spaced l ++ [32, 35, 32] ++ note))) p = (m, 0, 0) ∧ m.map (fun t => (t.kind, t.text)) = l.map (fun t => (t.kind, t.text))
  | [], _, f, p, hf => by
    refine ⟨[], ?_, rfl⟩
    apply scanG_end
    have e : spL false (spaced [] ++ [32, 35, 32] ++ note) = note.length + 3 := by
      show spL false (32 :: 35 :: 32 :: note) = _
      have h1 : spL true (32 :: note) = note.length + 1 := sp_comment (fun b hb => by rcases List.mem_cons.1 hb with rfl | hb; (· decide); (· exact hn b hb))
      simp only [spL] at h1 ⊢
      rw [if_pos (by decide), if_neg (by decide), if_pos trivial, h1]
    rw [List.length_drop, e]
    simp [spaced]
  | t :: l, h, f, p, hf => by
    have hg := h t (by simp)
    obtain ⟨b, x, hb, hb1, hb2⟩ := good_head hg
    have es : spaced (t :: l) ++ [32, 35, 32] ++ note = 32 :: (t.text ++ (spaced l ++ [32, 35, 32] ++ note)) := by simp [spaced]
    obtain ⟨y, hy⟩ : ∃ y, spaced l ++ [32, 35, 32] ++ note = 32 :: y := by
      cases l with
      | nil => exact ⟨_, rfl⟩
      | cons a l => exact ⟨_, by simp [spaced]; rfl⟩
    have e1 : spL false (32 :: (t.text ++ (spaced l ++ [32, 35, 32] ++ note))) = 1 := by
      have : spL false (t.text ++ (spaced l ++ [32, 35, 32] ++ note)) = 0 := by rw [hb, List.cons_append]; exact sp0 hb1 hb2
      simp only [spL]
      rw [if_pos (by decide), this]
    have hf1 : firstS (t.text ++ (spaced l ++ [32, 35, 32] ++ note)) = (t.kind, t.text, 0) := by rw [hy]; exact good_first hg y
    rw [es] at hf ⊢
    rw [e1]
    obtain ⟨f', rfl⟩ : ∃ f', f = f' + 1 := ⟨f - 1, by simp only [List.length_cons] at hf; omega⟩
    simp only [List.drop_succ_cons, List.drop_zero]
    rw [scanG_ok (by rw [hb]; simp) (by rw [hf1]), hf1]
    simp only [List.drop_left]
    obtain ⟨m, hm1, hm2⟩ := spaced_scan hn l (fun t' ht' => h t' (by simp [ht'])) f' (p + (t.text.length + spL false (spaced l ++ [32, 35, 32] ++ note))) (by simp only [List.length_cons, List.length_append] at hf ⊢; omega)
    rw [← List.drop_drop, List.drop_left, hm1]
    refine ⟨⟨t.kind, t.text, p⟩ :: m, rfl, ?_⟩
    simp only [List.map_cons, hm2]
theorem spaced_len {s : List UInt8} : ∀ (l : List Tok) (q : Nat), Chain s q l → q ≤ s.length → (spaced l).length + 2 * q ≤ 2 * s.length
  | [], q, h, hq => by simp [spaced]; omega
  | t :: r, q, h, hq => by
    obtain ⟨h1, h2, h3, _, _, h6⟩ := h
    have := spaced_len r _ h6 h3
    have e : (spaced (t :: r)).length = t.text.length + 1 + (spaced r).length := by simp [spaced]; omega
    have : 0 < t.text.length := List.length_pos_iff.2 h2
    omega

theorem spaced_ge (l : List Tok) : l.length ≤ (spaced l).length := by
  induction l with
  | nil => simp
  | cons a l ih =>
    have e : (spaced (a :: l)).length = a.text.length + 1 + (spaced l).length := by simp [spaced]; omega
    simp only [List.length_cons]; omega
theorem toks_le {s : List UInt8} (h : (scanS s).2.1 = 0) : (scanS s).1.length ≤ 2 * s.length := by
  have h1 := spaced_len _ 0 (scanS_chain h) (Nat.zero_le _)
  have h2 := spaced_ge (scanS s).1
  omega
/-! ### two texts, a line feed between them -/
theorem wl_nl : ∀ (u v : List UInt8), wl (u ++ 10 :: v) = wl u
  | [], v => by simp [wl]; decide
  | b :: r, v => by rw [List.cons_append]; simp only [wl, wl_nl r v]
theorem find_congr {A : Type} {p q : A → Bool} : ∀ {l : List A}, (∀ x ∈ l, p x = q x) → l.find? p = l.find? q
  | [], _ => rfl
  | a :: l, h => by
    rw [List.find?_cons, List.find?_cons, h a (by simp)]
    rw [find_congr fun x hx => h x (by simp [hx])]
theorem take_nl {w u v : List UInt8} (h : ∀ b ∈ w, b ≠ 10) : (u ++ 10 :: v).take w.length = w ↔ u.take w.length = w := by
  by_cases hl : w.length ≤ u.length
  · rw [List.take_append_of_le_length hl]
  · constructor
    · intro e
      exfalso
      have hm : (10 : UInt8) ∈ (u ++ 10 :: v).take w.length := by
        rw [List.take_append]
        refine List.mem_append.2 (.inr ?_)
        obtain ⟨n, hn⟩ : ∃ n, w.length - u.length = n + 1 := ⟨w.length - u.length - 1, by omega⟩
        rw [hn]; simp
      rw [e] at hm
      exact h 10 hm rfl
    · intro e
      have := congrArg List.length e
      rw [List.length_take] at this; omega
theorem sym_nl {u : List UInt8} (v : List UInt8) (h : 0 < u.length) : symL (u ++ 10 :: v) = symL u := by
  have e : longS.find? (fun w => decide ((u ++ 10 :: v).take w.length = w)) = longS.find? (fun w => decide (u.take w.length = w)) := by
    refine find_congr fun w hw => decide_eq_decide.2 (take_nl ?_)
    simp only [longS, List.mem_cons, List.not_mem_nil, or_false] at hw
    rcases hw with rfl | rfl | rfl | rfl | rfl | rfl | rfl <;> decide
  have e2 : (u ++ 10 :: v).head? = u.head? := by cases u with | nil => simp at h | cons a l => rfl
  unfold symL
  rw [e, e2]
theorem first_nl {u : List UInt8} (v : List UInt8) (h : 0 < u.length) : firstS (u ++ 10 :: v) = firstS u := by
  have h1 := wl_le u
  have h2 := symL_le h
  have hh : (u ++ 10 :: v).headD 0 = u.headD 0 := by cases u with | nil => simp at h | cons a l => rfl
  have ht : ∀ n, n ≤ u.length → (u ++ 10 :: v).take n = u.take n := fun n hn => List.take_append_of_le_length hn
  unfold firstS
  rw [wl_nl, sym_nl v h, hh, ht _ h1, ht _ h2]
theorem sp_nl : ∀ (u v : List UInt8) (c : Bool), spL c (u ++ 10 :: v) = if spL c u = u.length then u.length + 1 + spL false v else spL c u
  | [], v, c => by
    cases c with
    | false => simp only [List.nil_append, spL]; rw [if_pos (by decide)]; simp; omega
    | true => simp only [List.nil_append, spL]; simp; omega
  | b :: r, v, c => by
    have h1 := sp_nl r v true; have h2 := sp_nl r v false
    rw [List.cons_append]
    cases c with
    | false =>
      simp only [spL, List.length_cons]
      split
      · rw [h2]; split
        · rw [if_pos (by omega)]; omega
        · rw [if_neg (by omega)]
      · split
        · rw [h1]; split
          · rw [if_pos (by omega)]; omega
          · rw [if_neg (by omega)]
        · rw [if_neg (by omega)]
    | true =>
      simp only [spL, List.length_cons]
      split
      · rw [h2]; split
        · rw [if_pos (by omega)]; omega
        · rw [if_neg (by omega)]
      · rw [h1]; split
        · rw [if_pos (by omega)]; omega
        · rw [if_neg (by omega)]
def shift (n : Nat) (t : Tok) : Tok := ⟨t.kind, t.text, t.pos + n⟩
theorem scanG_more : ∀ (f g : Nat) (s : List UInt8) (p : Nat), s.length ≤ f → s.length ≤ g → scanG f s p = scanG g s p
  | 0, g, s, p, h, _ => by rw [scanG_end (by omega), scanG_end (by omega)]
  | f + 1, 0, s, p, _, h => by rw [scanG_end (by omega), scanG_end (by omega)]
  | f + 1, g + 1, s, p, h, h' => by
    by_cases h0 : s.length = 0
    · rw [scanG_end h0, scanG_end h0]
    · by_cases he : (firstS s).2.2 = 0
      · have := firstS_len (by omega) he
        rw [scanG_ok h0 he, scanG_ok h0 he, scanG_more f g _ _ (by rw [List.length_drop]; omega) (by rw [List.length_drop]; omega)]
      · rw [scanG_err h0 he, scanG_err h0 he]
theorem scanG_shift (n : Nat) : ∀ (f : Nat) (s : List UInt8) (p : Nat), scanG f s (p + n) = ((scanG f s p).1.map (shift n), (scanG f s p).2.1, if (scanG f s p).2.1 = 0 then (scanG f s p).2.2 else (scanG f s p).2.2 + n)
  | 0, s, p => rfl
  | f + 1, s, p => by
    by_cases h0 : s.length = 0
    · rw [scanG_end h0, scanG_end h0]; rfl
    · by_cases he : (firstS s).2.2 = 0
      · rw [scanG_ok h0 he, scanG_ok h0 he]
        have e : p + n + ((firstS s).2.1.length + spL false (s.drop (firstS s).2.1.length)) = p + ((firstS s).2.1.length + spL false (s.drop (firstS s).2.1.length)) + n := by omega
        rw [e, scanG_shift n f]
        generalize scanG f (s.drop ((firstS s).2.1.length + spL false (s.drop (firstS s).2.1.length))) (p + ((firstS s).2.1.length + spL false (s.drop (firstS s).2.1.length))) = x
        obtain ⟨x1, x2, x3⟩ := x
        unfold appT
        by_cases hx : x2 = 0
        · simp only [if_pos hx]; rfl
        · simp only [if_neg hx]; rfl
      · rw [scanG_err h0 he, scanG_err h0 he]
        simp only [if_neg he]; rfl
/-- Behind u's tokens come v's. -/
theorem scan_join (v : List UInt8) : ∀ (f g : Nat) (u : List UInt8) (p : Nat), u.length ≤ f → (u ++ 10 :: v).length ≤ g →
    scanG g ((u ++ 10 :: v).drop (spL false (u ++ 10 :: v))) (p + spL false (u ++ 10 :: v)) =
      if (scanG f (u.drop (spL false u)) (p + spL false u)).2.1 = 0 then appT (scanG f (u.drop (spL false u)) (p + spL false u)).1 (scanG g (v.drop (spL false v)) (p + u.length + 1 + spL false v))
      else scanG f (u.drop (spL false u)) (p + spL false u) := by
  intro f
  induction f with
  | zero =>
    intro g u p hu hg
    have : u = [] := List.length_eq_zero_iff.1 (by omega)
    subst this
    have e := sp_nl [] v false
    rw [if_pos (show spL false [] = ([] : List UInt8).length from rfl)] at e
    rw [e]
    simp only [List.nil_append, List.length_nil, Nat.zero_add, Nat.add_comm 1, List.drop_succ_cons, List.drop_nil]
    rw [scanG_end (s := []) rfl, if_pos rfl, appT_nil (scanG_ok0 _ _ _)]
    congr 1; omega
  | succ f ih =>
    intro g u p hu hg
    have e := sp_nl u v false
    have hle := spL_le u false
    by_cases hall : spL false u = u.length
    · rw [if_pos hall] at e
      rw [e, hall]
      have hd : (u ++ 10 :: v).drop (u.length + 1 + spL false v) = v.drop (spL false v) := by
        rw [Nat.add_assoc, ← List.drop_drop, List.drop_left, Nat.add_comm 1, List.drop_succ_cons]
      rw [hd, List.drop_of_length_le (Nat.le_refl _), scanG_end (s := []) rfl, if_pos rfl, appT_nil (scanG_ok0 _ _ _)]
      congr 1; omega
    · rw [if_neg hall] at e
      rw [e]
      have hd : (u ++ 10 :: v).drop (spL false u) = u.drop (spL false u) ++ 10 :: v := List.drop_append_of_le_length hle
      rw [hd]
      have hul : (u.drop (spL false u)).length = u.length - spL false u := List.length_drop
      generalize hw : u.drop (spL false u) = w at hul ⊢
      have hw0 : 0 < w.length := by omega
      have hf := first_nl v hw0
      obtain ⟨g', rfl⟩ : ∃ g', g = g' + 1 := ⟨g - 1, by simp only [List.length_append, List.length_cons] at hg; omega⟩
      by_cases he : (firstS w).2.2 = 0
      · have h2 := firstS_len hw0 he
        rw [scanG_ok (s := w ++ 10 :: v) (by simp) (by rw [hf]; exact he), scanG_ok (s := w) (by omega) he, hf]
        have hd2 : (w ++ 10 :: v).drop (firstS w).2.1.length = w.drop (firstS w).2.1.length ++ 10 :: v := List.drop_append_of_le_length h2.2
        rw [hd2, ← List.drop_drop, ← List.drop_drop, hd2, ← Nat.add_assoc, ← Nat.add_assoc]
        have hx : (w.drop (firstS w).2.1.length).length = w.length - (firstS w).2.1.length := List.length_drop
        have hl : (u ++ 10 :: v).length = u.length + 1 + v.length := by simp; omega
        rw [ih g' (w.drop (firstS w).2.1.length) (p + spL false u + (firstS w).2.1.length) (by omega) (by simp only [List.length_append, List.length_cons, hx]; omega)]
        have hp : p + spL false u + (firstS w).2.1.length + (w.drop (firstS w).2.1.length).length + 1 + spL false v = p + u.length + 1 + spL false v := by omega
        rw [hp]
        have hgg : scanG g' (v.drop (spL false v)) (p + u.length + 1 + spL false v) = scanG (g' + 1) (v.drop (spL false v)) (p + u.length + 1 + spL false v) :=
          scanG_more _ _ _ _ (by rw [List.length_drop]; omega) (by rw [List.length_drop]; omega)
        rw [hgg]
        generalize scanG f ((w.drop (firstS w).2.1.length).drop (spL false (w.drop (firstS w).2.1.length))) (p + spL false u + (firstS w).2.1.length + spL false (w.drop (firstS w).2.1.length)) = x
        have k2 : (appT [⟨(firstS w).1, (firstS w).2.1, p + spL false u⟩] x).2 = x.2 := by unfold appT; split <;> rfl
        rw [k2]
        by_cases hx0 : x.2.1 = 0
        · rw [if_pos hx0, if_pos hx0, appT_app]
          congr 1
          unfold appT; rw [if_pos hx0]
        · rw [if_neg hx0, if_neg hx0]
      · rw [scanG_err (s := w ++ 10 :: v) (by simp) (by rw [hf]; exact he), scanG_err (s := w) (by omega) he, hf]
        simp only [if_neg he]
theorem scan_concat {u v : List UInt8} (hu : u.length ≤ 9000) (hv : v.length ≤ 9000) : scanS (u ++ 10 :: v) =
    if (scanS u).2.1 = 0 then (if (scanS v).2.1 = 0 then ((scanS u).1 ++ (scanS v).1.map (shift (u.length + 1)), 0, (scanS v).2.2) else ([], (scanS v).2.1, (scanS v).2.2 + (u.length + 1))) else ([], (scanS u).2) := by
  have eu : scanS u = scanG u.length (u.drop (spL false u)) (0 + spL false u) := by unfold scanS; rw [if_neg (by omega), Nat.zero_add]
  have ev : scanS v = scanG (u ++ 10 :: v).length (v.drop (spL false v)) (spL false v) := by
    unfold scanS; rw [if_neg (by omega)]
    exact scanG_more _ _ _ _ (by rw [List.length_drop]; omega) (by rw [List.length_drop]; simp; omega)
  have ej : scanS (u ++ 10 :: v) = scanG (u ++ 10 :: v).length ((u ++ 10 :: v).drop (spL false (u ++ 10 :: v))) (0 + spL false (u ++ 10 :: v)) := by
    unfold scanS; rw [if_neg (by simp; omega), Nat.zero_add]
  rw [ej, scan_join v u.length _ u 0 (Nat.le_refl _) (Nat.le_refl _), ← eu]
  by_cases h0 : (scanS u).2.1 = 0
  · rw [if_pos h0, if_pos h0]
    have hs := scanG_shift (u.length + 1) (u ++ 10 :: v).length (v.drop (spL false v)) (spL false v)
    rw [← ev] at hs
    have e : 0 + u.length + 1 + spL false v = spL false v + (u.length + 1) := by omega
    rw [e, hs]
    unfold appT
    by_cases h1 : (scanS v).2.1 = 0
    · simp only [if_pos h1]; rw [h1]
    · simp only [if_neg h1]
  · rw [if_neg h0, if_neg h0]
    have := scanS_err (by omega) h0
    rw [← this.1]
end Go.Proofs.Yteknebkgpehphaa
