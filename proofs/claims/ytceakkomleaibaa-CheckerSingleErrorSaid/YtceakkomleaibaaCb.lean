/-
  CONTRACTS of the checker: names, well-formed trees (printed by wip/tools/walk.py from wip/specs/chkB.py). Written in this session.
-/
import Derived.Test.YtceakkomleaibaaCa
namespace Go.Proofs.Ytceakkomleaibaa
open Go.Ea
set_option maxRecDepth 100000
set_option linter.unusedVariables false
set_option linter.unusedSimpArgs false

def resvL : List (List UInt8) := [[97, 114, 114, 97, 121], [102, 117, 110, 99], [118, 97, 114], [114, 101, 116, 117, 114, 110], [105, 102], [101, 108, 115, 101], [119, 104, 105, 108, 101], [111, 117, 116], [116, 114, 97, 112]]
/-- A name that the parser takes. -/
noncomputable def vName (s : List UInt8) : Bool := decide (((scanS s).2.1 : Int) = 0) && (decide (((scanS s).1.length : Int) = 1) && ((match (scanS s).1[0]? with
  | some t => decide ((t.kind : Int) = 1) && decide (t.text = s)
  | none => false) && !(resvL.any fun w => decide (s = w))))

theorem validName_ok (s : List UInt8) (H : Heap) : Sim Try.prog 32 [at' (.str s)] H (fun u G => u = at' (.bool (vName s)) ∧ G = H) := by
 refine Sim.trim ?_
 refine Sim.of_tri Try.func32 rfl ?_
 show TrP 44 _ _ _ _
 refine Tri.seq ?_
 refine tR ?_
 refine sV rfl rfl rfl ?_
 show TrP 44 _ _ _ _
 refine tH [(0, _), (2, _)] ?_
 refine Tri.seq ?_
 refine tR ?_
 refine sV rfl rfl rfl ?_
 refine sO rfl rfl (oC rfl (fnOk_of Try.func55 (by decide) rfl) (Scan_ok _ _) ?_)
 rintro u G ⟨a, rfl, hr, hk⟩
 obtain ⟨p, rfl, hr2⟩ := hr.r tokC_len
 have hkn := hk.n
 iterate 3 refine sV rfl rfl rfl ?_
 refine sO rfl rfl (oAlloc (cs := [.int .i64 0, .int .i64 0]) rfl rfl ?_)
 refine sV rfl rfl rfl ?_
 refine sO rfl rfl (oStore (n := 2) (cs' := [_, _]) rfl rfl rfl gG rfl (Nat.le_of_ble_eq_true rfl) rfl rfl ?_)
 show TrP 44 _ _ _ _
 refine tH [(0, _), (2, _), (3, _), (4, _)] ?_
 refine Tri.seq ?_
 refine Tri.seq ?_
 refine tR ?_
 refine sO rfl rfl (oW (at' (.ptr (some (_, 0)))) rfl rfl ?_)
 refine sO rfl rfl (oLoad (x := .at _) rfl gG rfl ?_)
 refine sO rfl rfl (oNE rfl (fun h12 => ?_) (fun h12 => ?_))
 ·
  refine sV rfl rfl rfl ?_
  iterate 3 refine sN rfl rfl ?_
  iterate 2 refine sV rfl rfl rfl ?_
  iterate 5 refine sN rfl rfl ?_
  iterate 2 refine sV rfl rfl rfl ?_
  iterate 6 refine sN rfl rfl ?_
  refine sV rfl rfl rfl ?_
  show TrP 44 _ _ _ _
  refine tH [(0, _), (2, _), (3, _), (4, _), (32, _)] ?_
  refine tT rfl ?_
  refine Tri.seq ?_
  refine tR ?_
  refine sV rfl rfl rfl ?_
  show TrP 44 _ _ _ _
  refine tH [(0, _), (2, _), (3, _), (4, _), (32, _)] ?_
  refine Tri.ret ?_
  refine ⟨trivial, _, rfl, ?_⟩
  have e : vName s = false := by
    unfold vName
    first
      | (rw [decide_eq_false h12]; rfl)
      | (rw [decide_eq_false h16]; simp; done)
      | (rw [ht]; simp only []; rw [decide_eq_false h23]; simp; done)
      | (rw [ht]; simp only []; rw [decide_eq_false h31]; simp; done)
  rw [e]; exact ⟨kP, rfl, rfl⟩
 ·
  iterate 3 refine sV rfl rfl rfl ?_
  refine sO rfl rfl (oNE rfl (fun h16 => ?_) (fun h16 => ?_))
  ·
   iterate 2 refine sV rfl rfl rfl ?_
   iterate 5 refine sN rfl rfl ?_
   iterate 2 refine sV rfl rfl rfl ?_
   iterate 6 refine sN rfl rfl ?_
   refine sV rfl rfl rfl ?_
   show TrP 44 _ _ _ _
   refine tH [(0, _), (2, _), (3, _), (4, _), (32, _)] ?_
   refine tT rfl ?_
   refine Tri.seq ?_
   refine tR ?_
   refine sV rfl rfl rfl ?_
   show TrP 44 _ _ _ _
   refine tH [(0, _), (2, _), (3, _), (4, _), (32, _)] ?_
   refine Tri.ret ?_
   refine ⟨trivial, _, rfl, ?_⟩
   have e : vName s = false := by
     unfold vName
     first
       | (rw [decide_eq_false h12]; rfl)
       | (rw [decide_eq_false h16]; simp; done)
       | (rw [ht]; simp only []; rw [decide_eq_false h23]; simp; done)
       | (rw [ht]; simp only []; rw [decide_eq_false h31]; simp; done)
   rw [e]; exact ⟨kP, rfl, rfl⟩
  ·
   iterate 3 refine sV rfl rfl rfl ?_
   obtain ⟨t, ht⟩ : ∃ t, (scanS s).1[0]? = some t := ⟨_, List.getElem?_eq_getElem (by omega)⟩
   obtain ⟨id, o, T, q, c, rfl, hg, hle, hcs⟩ := hr2.at tokC_len ht
   have hlt := Heap.get_lt hg
   refine sO rfl rfl (oIA (z := 3) (i := 0) rfl rfl rfl rfl (by omega) ?_)
   refine sO rfl rfl (oW (at' (.ptr (some (_, _ + 0)))) rfl rfl ?_)
   refine sO rfl rfl (oLoad (x := .at (.int .i64 t.kind)) rfl gG (part_cell 0 hcs (by omega) rfl rfl rfl rfl) ?_)
   refine sO rfl rfl (oNE rfl (fun h23 => ?_) (fun h23 => ?_))
   ·
    iterate 2 refine sV rfl rfl rfl ?_
    iterate 6 refine sN rfl rfl ?_
    refine sV rfl rfl rfl ?_
    show TrP 44 _ _ _ _
    refine tH [(0, _), (2, _), (3, _), (4, _), (32, _)] ?_
    refine tT rfl ?_
    refine Tri.seq ?_
    refine tR ?_
    refine sV rfl rfl rfl ?_
    show TrP 44 _ _ _ _
    refine tH [(0, _), (2, _), (3, _), (4, _), (32, _)] ?_
    refine Tri.ret ?_
    refine ⟨trivial, _, rfl, ?_⟩
    have e : vName s = false := by
      unfold vName
      first
        | (rw [decide_eq_false h12]; rfl)
        | (rw [decide_eq_false h16]; simp; done)
        | (rw [ht]; simp only []; rw [decide_eq_false h23]; simp; done)
        | (rw [ht]; simp only []; rw [decide_eq_false h31]; simp; done)
    rw [e]; exact ⟨kP, rfl, rfl⟩
   ·
    iterate 3 refine sV rfl rfl rfl ?_
    refine sO rfl rfl (oIA (z := 3) (i := 0) rfl rfl rfl rfl (by omega) ?_)
    refine sO rfl rfl (oW (at' (.ptr (some (_, _ + 1)))) rfl rfl ?_)
    refine sO rfl rfl (oLoad (x := .at (.str t.text)) rfl gG (part_cell 1 hcs (by omega) rfl rfl rfl rfl) ?_)
    refine sV rfl rfl rfl ?_
    refine sO rfl rfl (oSN rfl (fun h31 => ?_) (fun h31 => ?_))
    ·
     refine sV rfl rfl rfl ?_
     show TrP 44 _ _ _ _
     refine tH [(0, _), (2, _), (3, _), (4, _), (32, _)] ?_
     refine tT rfl ?_
     refine Tri.seq ?_
     refine tR ?_
     refine sV rfl rfl rfl ?_
     show TrP 44 _ _ _ _
     refine tH [(0, _), (2, _), (3, _), (4, _), (32, _)] ?_
     refine Tri.ret ?_
     refine ⟨trivial, _, rfl, ?_⟩
     have e : vName s = false := by
       unfold vName
       first
         | (rw [decide_eq_false h12]; rfl)
         | (rw [decide_eq_false h16]; simp; done)
         | (rw [ht]; simp only []; rw [decide_eq_false h23]; simp; done)
         | (rw [ht]; simp only []; rw [decide_eq_false h31]; simp; done)
     rw [e]; exact ⟨kP, rfl, rfl⟩
    ·
     refine sV rfl rfl rfl ?_
     show TrP 44 _ _ _ _
     refine tH [(0, _), (2, _), (3, _), (4, _), (32, _)] ?_
     refine tF rfl ?_
     refine Tri.skip ?_
     show TrP 44 _ _ _ _
     refine tH [(0, _), (2, _), (3, _), (4, _), (32, _)] ?_
     refine Tri.seq ?_
     refine Tri.seq ?_
     refine tR ?_
     refine sV rfl rfl rfl ?_
     show TrP 44 _ _ _ _
     refine tH [(0, _), (2, _), (3, _), (4, _), (32, _), (33, _)] ?_
     refine Tri.block ?_
     refine Tri.seq ?_
     refine Tri.seq ?_
     refine tR ?_
     refine sO rfl rfl (oS rfl (fun h35 => ?_) (fun h35 => ?_))
     ·
      refine sV rfl rfl rfl ?_
      show TrP 44 _ _ _ _
      refine tH [(0, _), (2, _), (3, _), (4, _), (32, _), (33, _), (34, _)] ?_
      refine tT rfl ?_
      refine Tri.skip ?_
      show TrP 44 _ _ _ _
      refine tH [(0, _), (2, _), (3, _), (4, _), (32, _), (33, _), (34, _)] ?_
      refine tT rfl ?_
      refine Tri.seq ?_
      refine tR ?_
      refine sV rfl rfl rfl ?_
      show TrP 44 _ _ _ _
      refine tH [(0, _), (2, _), (3, _), (4, _), (32, _), (33, _), (34, _)] ?_
      refine Tri.ret ?_
      refine ⟨trivial, _, rfl, ?_⟩
      have e : vName s = false := by
        have hx : (resvL.any fun w => decide (s = w)) = true := List.any_eq_true.2 ⟨s, (by first | (rw [h43]; simp [resvL]; done) | (rw [h42]; simp [resvL]; done) | (rw [h41]; simp [resvL]; done) | (rw [h40]; simp [resvL]; done) | (rw [h39]; simp [resvL]; done) | (rw [h38]; simp [resvL]; done) | (rw [h37]; simp [resvL]; done) | (rw [h36]; simp [resvL]; done) | (rw [h35]; simp [resvL]; done)), by simp⟩
        unfold vName; rw [hx]; simp
      rw [e]; exact ⟨kP, rfl, rfl⟩
     ·
      refine sV rfl rfl rfl ?_
      show TrP 44 _ _ _ _
      refine tH [(0, _), (2, _), (3, _), (4, _), (32, _), (33, _), (34, _)] ?_
      refine tF rfl ?_
      refine Tri.seq ?_
      refine tR ?_
      refine sO rfl rfl (oS rfl (fun h36 => ?_) (fun h36 => ?_))
      ·
       refine sV rfl rfl rfl ?_
       show TrP 44 _ _ _ _
       refine tH [(0, _), (2, _), (3, _), (4, _), (32, _), (33, _), (34, _)] ?_
       refine tT rfl ?_
       refine Tri.skip ?_
       show TrP 44 _ _ _ _
       refine tH [(0, _), (2, _), (3, _), (4, _), (32, _), (33, _), (34, _)] ?_
       refine tT rfl ?_
       refine Tri.seq ?_
       refine tR ?_
       refine sV rfl rfl rfl ?_
       show TrP 44 _ _ _ _
       refine tH [(0, _), (2, _), (3, _), (4, _), (32, _), (33, _), (34, _)] ?_
       refine Tri.ret ?_
       refine ⟨trivial, _, rfl, ?_⟩
       have e : vName s = false := by
         have hx : (resvL.any fun w => decide (s = w)) = true := List.any_eq_true.2 ⟨s, (by first | (rw [h43]; simp [resvL]; done) | (rw [h42]; simp [resvL]; done) | (rw [h41]; simp [resvL]; done) | (rw [h40]; simp [resvL]; done) | (rw [h39]; simp [resvL]; done) | (rw [h38]; simp [resvL]; done) | (rw [h37]; simp [resvL]; done) | (rw [h36]; simp [resvL]; done) | (rw [h35]; simp [resvL]; done)), by simp⟩
         unfold vName; rw [hx]; simp
       rw [e]; exact ⟨kP, rfl, rfl⟩
      ·
       refine sV rfl rfl rfl ?_
       show TrP 44 _ _ _ _
       refine tH [(0, _), (2, _), (3, _), (4, _), (32, _), (33, _), (34, _)] ?_
       refine tF rfl ?_
       refine Tri.seq ?_
       refine tR ?_
       refine sO rfl rfl (oS rfl (fun h37 => ?_) (fun h37 => ?_))
       ·
        refine sV rfl rfl rfl ?_
        show TrP 44 _ _ _ _
        refine tH [(0, _), (2, _), (3, _), (4, _), (32, _), (33, _), (34, _)] ?_
        refine tT rfl ?_
        refine Tri.skip ?_
        show TrP 44 _ _ _ _
        refine tH [(0, _), (2, _), (3, _), (4, _), (32, _), (33, _), (34, _)] ?_
        refine tT rfl ?_
        refine Tri.seq ?_
        refine tR ?_
        refine sV rfl rfl rfl ?_
        show TrP 44 _ _ _ _
        refine tH [(0, _), (2, _), (3, _), (4, _), (32, _), (33, _), (34, _)] ?_
        refine Tri.ret ?_
        refine ⟨trivial, _, rfl, ?_⟩
        have e : vName s = false := by
          have hx : (resvL.any fun w => decide (s = w)) = true := List.any_eq_true.2 ⟨s, (by first | (rw [h43]; simp [resvL]; done) | (rw [h42]; simp [resvL]; done) | (rw [h41]; simp [resvL]; done) | (rw [h40]; simp [resvL]; done) | (rw [h39]; simp [resvL]; done) | (rw [h38]; simp [resvL]; done) | (rw [h37]; simp [resvL]; done) | (rw [h36]; simp [resvL]; done) | (rw [h35]; simp [resvL]; done)), by simp⟩
          unfold vName; rw [hx]; simp
        rw [e]; exact ⟨kP, rfl, rfl⟩
       ·
        refine sV rfl rfl rfl ?_
        show TrP 44 _ _ _ _
        refine tH [(0, _), (2, _), (3, _), (4, _), (32, _), (33, _), (34, _)] ?_
        refine tF rfl ?_
        refine Tri.seq ?_
        refine tR ?_
        refine sO rfl rfl (oS rfl (fun h38 => ?_) (fun h38 => ?_))
        ·
         refine sV rfl rfl rfl ?_
         show TrP 44 _ _ _ _
         refine tH [(0, _), (2, _), (3, _), (4, _), (32, _), (33, _), (34, _)] ?_
         refine tT rfl ?_
         refine Tri.skip ?_
         show TrP 44 _ _ _ _
         refine tH [(0, _), (2, _), (3, _), (4, _), (32, _), (33, _), (34, _)] ?_
         refine tT rfl ?_
         refine Tri.seq ?_
         refine tR ?_
         refine sV rfl rfl rfl ?_
         show TrP 44 _ _ _ _
         refine tH [(0, _), (2, _), (3, _), (4, _), (32, _), (33, _), (34, _)] ?_
         refine Tri.ret ?_
         refine ⟨trivial, _, rfl, ?_⟩
         have e : vName s = false := by
           have hx : (resvL.any fun w => decide (s = w)) = true := List.any_eq_true.2 ⟨s, (by first | (rw [h43]; simp [resvL]; done) | (rw [h42]; simp [resvL]; done) | (rw [h41]; simp [resvL]; done) | (rw [h40]; simp [resvL]; done) | (rw [h39]; simp [resvL]; done) | (rw [h38]; simp [resvL]; done) | (rw [h37]; simp [resvL]; done) | (rw [h36]; simp [resvL]; done) | (rw [h35]; simp [resvL]; done)), by simp⟩
           unfold vName; rw [hx]; simp
         rw [e]; exact ⟨kP, rfl, rfl⟩
        ·
         refine sV rfl rfl rfl ?_
         show TrP 44 _ _ _ _
         refine tH [(0, _), (2, _), (3, _), (4, _), (32, _), (33, _), (34, _)] ?_
         refine tF rfl ?_
         refine Tri.seq ?_
         refine tR ?_
         refine sO rfl rfl (oS rfl (fun h39 => ?_) (fun h39 => ?_))
         ·
          refine sV rfl rfl rfl ?_
          show TrP 44 _ _ _ _
          refine tH [(0, _), (2, _), (3, _), (4, _), (32, _), (33, _), (34, _)] ?_
          refine tT rfl ?_
          refine Tri.skip ?_
          show TrP 44 _ _ _ _
          refine tH [(0, _), (2, _), (3, _), (4, _), (32, _), (33, _), (34, _)] ?_
          refine tT rfl ?_
          refine Tri.seq ?_
          refine tR ?_
          refine sV rfl rfl rfl ?_
          show TrP 44 _ _ _ _
          refine tH [(0, _), (2, _), (3, _), (4, _), (32, _), (33, _), (34, _)] ?_
          refine Tri.ret ?_
          refine ⟨trivial, _, rfl, ?_⟩
          have e : vName s = false := by
            have hx : (resvL.any fun w => decide (s = w)) = true := List.any_eq_true.2 ⟨s, (by first | (rw [h43]; simp [resvL]; done) | (rw [h42]; simp [resvL]; done) | (rw [h41]; simp [resvL]; done) | (rw [h40]; simp [resvL]; done) | (rw [h39]; simp [resvL]; done) | (rw [h38]; simp [resvL]; done) | (rw [h37]; simp [resvL]; done) | (rw [h36]; simp [resvL]; done) | (rw [h35]; simp [resvL]; done)), by simp⟩
            unfold vName; rw [hx]; simp
          rw [e]; exact ⟨kP, rfl, rfl⟩
         ·
          refine sV rfl rfl rfl ?_
          show TrP 44 _ _ _ _
          refine tH [(0, _), (2, _), (3, _), (4, _), (32, _), (33, _), (34, _)] ?_
          refine tF rfl ?_
          refine Tri.seq ?_
          refine tR ?_
          refine sO rfl rfl (oS rfl (fun h40 => ?_) (fun h40 => ?_))
          ·
           refine sV rfl rfl rfl ?_
           show TrP 44 _ _ _ _
           refine tH [(0, _), (2, _), (3, _), (4, _), (32, _), (33, _), (34, _)] ?_
           refine tT rfl ?_
           refine Tri.skip ?_
           show TrP 44 _ _ _ _
           refine tH [(0, _), (2, _), (3, _), (4, _), (32, _), (33, _), (34, _)] ?_
           refine tT rfl ?_
           refine Tri.seq ?_
           refine tR ?_
           refine sV rfl rfl rfl ?_
           show TrP 44 _ _ _ _
           refine tH [(0, _), (2, _), (3, _), (4, _), (32, _), (33, _), (34, _)] ?_
           refine Tri.ret ?_
           refine ⟨trivial, _, rfl, ?_⟩
           have e : vName s = false := by
             have hx : (resvL.any fun w => decide (s = w)) = true := List.any_eq_true.2 ⟨s, (by first | (rw [h43]; simp [resvL]; done) | (rw [h42]; simp [resvL]; done) | (rw [h41]; simp [resvL]; done) | (rw [h40]; simp [resvL]; done) | (rw [h39]; simp [resvL]; done) | (rw [h38]; simp [resvL]; done) | (rw [h37]; simp [resvL]; done) | (rw [h36]; simp [resvL]; done) | (rw [h35]; simp [resvL]; done)), by simp⟩
             unfold vName; rw [hx]; simp
           rw [e]; exact ⟨kP, rfl, rfl⟩
          ·
           refine sV rfl rfl rfl ?_
           show TrP 44 _ _ _ _
           refine tH [(0, _), (2, _), (3, _), (4, _), (32, _), (33, _), (34, _)] ?_
           refine tF rfl ?_
           refine Tri.seq ?_
           refine tR ?_
           refine sO rfl rfl (oS rfl (fun h41 => ?_) (fun h41 => ?_))
           ·
            refine sV rfl rfl rfl ?_
            show TrP 44 _ _ _ _
            refine tH [(0, _), (2, _), (3, _), (4, _), (32, _), (33, _), (34, _)] ?_
            refine tT rfl ?_
            refine Tri.skip ?_
            show TrP 44 _ _ _ _
            refine tH [(0, _), (2, _), (3, _), (4, _), (32, _), (33, _), (34, _)] ?_
            refine tT rfl ?_
            refine Tri.seq ?_
            refine tR ?_
            refine sV rfl rfl rfl ?_
            show TrP 44 _ _ _ _
            refine tH [(0, _), (2, _), (3, _), (4, _), (32, _), (33, _), (34, _)] ?_
            refine Tri.ret ?_
            refine ⟨trivial, _, rfl, ?_⟩
            have e : vName s = false := by
              have hx : (resvL.any fun w => decide (s = w)) = true := List.any_eq_true.2 ⟨s, (by first | (rw [h43]; simp [resvL]; done) | (rw [h42]; simp [resvL]; done) | (rw [h41]; simp [resvL]; done) | (rw [h40]; simp [resvL]; done) | (rw [h39]; simp [resvL]; done) | (rw [h38]; simp [resvL]; done) | (rw [h37]; simp [resvL]; done) | (rw [h36]; simp [resvL]; done) | (rw [h35]; simp [resvL]; done)), by simp⟩
              unfold vName; rw [hx]; simp
            rw [e]; exact ⟨kP, rfl, rfl⟩
           ·
            refine sV rfl rfl rfl ?_
            show TrP 44 _ _ _ _
            refine tH [(0, _), (2, _), (3, _), (4, _), (32, _), (33, _), (34, _)] ?_
            refine tF rfl ?_
            refine Tri.seq ?_
            refine tR ?_
            refine sO rfl rfl (oS rfl (fun h42 => ?_) (fun h42 => ?_))
            ·
             refine sV rfl rfl rfl ?_
             show TrP 44 _ _ _ _
             refine tH [(0, _), (2, _), (3, _), (4, _), (32, _), (33, _), (34, _)] ?_
             refine tT rfl ?_
             refine Tri.skip ?_
             show TrP 44 _ _ _ _
             refine tH [(0, _), (2, _), (3, _), (4, _), (32, _), (33, _), (34, _)] ?_
             refine tT rfl ?_
             refine Tri.seq ?_
             refine tR ?_
             refine sV rfl rfl rfl ?_
             show TrP 44 _ _ _ _
             refine tH [(0, _), (2, _), (3, _), (4, _), (32, _), (33, _), (34, _)] ?_
             refine Tri.ret ?_
             refine ⟨trivial, _, rfl, ?_⟩
             have e : vName s = false := by
               have hx : (resvL.any fun w => decide (s = w)) = true := List.any_eq_true.2 ⟨s, (by first | (rw [h43]; simp [resvL]; done) | (rw [h42]; simp [resvL]; done) | (rw [h41]; simp [resvL]; done) | (rw [h40]; simp [resvL]; done) | (rw [h39]; simp [resvL]; done) | (rw [h38]; simp [resvL]; done) | (rw [h37]; simp [resvL]; done) | (rw [h36]; simp [resvL]; done) | (rw [h35]; simp [resvL]; done)), by simp⟩
               unfold vName; rw [hx]; simp
             rw [e]; exact ⟨kP, rfl, rfl⟩
            ·
             refine sV rfl rfl rfl ?_
             show TrP 44 _ _ _ _
             refine tH [(0, _), (2, _), (3, _), (4, _), (32, _), (33, _), (34, _)] ?_
             refine tF rfl ?_
             refine tR ?_
             refine sO rfl rfl (oS rfl (fun h43 => ?_) (fun h43 => ?_))
             ·
              refine sV rfl rfl rfl ?_
              show TrP 44 _ _ _ _
              refine tH [(0, _), (2, _), (3, _), (4, _), (32, _), (33, _), (34, _)] ?_
              refine tT rfl ?_
              refine Tri.seq ?_
              refine tR ?_
              refine sV rfl rfl rfl ?_
              show TrP 44 _ _ _ _
              refine tH [(0, _), (2, _), (3, _), (4, _), (32, _), (33, _), (34, _)] ?_
              refine Tri.ret ?_
              refine ⟨trivial, _, rfl, ?_⟩
              have e : vName s = false := by
                have hx : (resvL.any fun w => decide (s = w)) = true := List.any_eq_true.2 ⟨s, (by first | (rw [h43]; simp [resvL]; done) | (rw [h42]; simp [resvL]; done) | (rw [h41]; simp [resvL]; done) | (rw [h40]; simp [resvL]; done) | (rw [h39]; simp [resvL]; done) | (rw [h38]; simp [resvL]; done) | (rw [h37]; simp [resvL]; done) | (rw [h36]; simp [resvL]; done) | (rw [h35]; simp [resvL]; done)), by simp⟩
                unfold vName; rw [hx]; simp
              rw [e]; exact ⟨kP, rfl, rfl⟩
             ·
              refine sV rfl rfl rfl ?_
              show TrP 44 _ _ _ _
              refine tH [(0, _), (2, _), (3, _), (4, _), (32, _), (33, _), (34, _)] ?_
              refine tF rfl ?_
              refine Tri.skip ?_
              show TrP 44 _ _ _ _
              refine tH [(0, _), (2, _), (3, _), (4, _), (32, _), (33, _), (34, _)] ?_
              refine Tri.seq ?_
              refine tR ?_
              refine sV rfl rfl rfl ?_
              show TrP 44 _ _ _ _
              refine tH [(0, _), (2, _), (3, _), (4, _), (32, _), (33, _), (34, _)] ?_
              refine Tri.ret ?_
              refine ⟨trivial, _, rfl, ?_⟩
              have e : vName s = true := by
                have hx : (resvL.any fun w => decide (s = w)) = false := by simp [resvL, h35, h36, h37, h38, h39, h40, h41, h42, h43]
                unfold vName; rw [hx, ht]; simp only []; rw [decide_eq_true h12, decide_eq_true h16, decide_eq_true h23, decide_eq_true h31]; rfl
              rw [e]; exact ⟨kP, rfl, rfl⟩
theorem validNames_ok (l : List (List UInt8)) (p : Option (Nat × Nat)) (H : Heap) (hrow : RowQ H 1 LT1 l p) (hlen : l.length < 2305843009213693952) : Sim Try.prog 33 [at' (.slice p l.length)] H (fun u G => u = at' (.bool (l.all vName)) ∧ G = H) := by
 refine Sim.of_tri Try.func33 rfl ?_
 show TrP 15 _ _ _ _
 refine Tri.seq ?_
 refine tR ?_
 refine sV rfl rfl rfl ?_
 show TrP 15 _ _ _ _
 refine tH [(0, _), (2, _)] ?_
 refine Tri.seq ?_
 refine Tri.seq ?_
 refine tR ?_
 iterate 3 refine sV rfl rfl rfl ?_
 show TrP 15 _ _ _ _
 refine tH [(0, _), (2, _), (5, _), (6, _), (7, _)] ?_
 refine Tri.block ?_
 refine Tri.loop (fun k lk1 H1 => ∃ n : Nat, k = l.length - n ∧ n ≤ l.length ∧ (l.take n).all vName = true ∧ Has lk1 [(5, at' (.slice p l.length)), (6, at' (.int .i64 l.length)), (7, at' (.int .i64 n))] ∧ H = H1) (l.length) (⟨0, rfl, by omega, by simp, ⟨rfl, rfl, rfl, trivial⟩, rfl⟩) ?_
 rintro k lk1 H1 ⟨n, hk, hn, he, hh, rfl⟩
 refine Tri.has hh ?_
 refine Tri.seq ?_
 refine tR ?_
 refine sO rfl rfl (oP rfl (fun h8 => ?_) (fun h8 => ?_))
 ·
  show TrP 15 _ _ _ _
  refine tH [(5, _), (6, _), (7, _), (8, _)] ?_
  refine Tri.seq ?_
  refine tT rfl ?_
  refine Tri.skip ?_
  show TrP 15 _ _ _ _
  refine tH [(5, _), (6, _), (7, _), (8, _)] ?_
  refine Tri.seq ?_
  refine Tri.block ?_
  refine Tri.seq ?_
  refine tR ?_
  obtain ⟨x, hx⟩ : ∃ x, l[n]? = some x := ⟨_, List.getElem?_eq_getElem (by omega)⟩
  obtain ⟨id, o, T, q, c, rfl, hg, hle, hcs⟩ := hrow.at hx
  refine sO rfl rfl (oIA (z := 1) rfl rfl rfl rfl (by omega) ?_)
  refine sO rfl rfl (oLoad (x := .at (.str x)) rfl gG (part_one hcs rfl rfl rfl) ?_)
  refine sV rfl rfl rfl ?_
  show TrP 15 _ _ _ _
  refine tH [(4, _), (5, _), (6, _), (7, _), (8, _)] ?_
  refine Tri.seq ?_
  refine tR ?_
  refine sV rfl rfl rfl ?_
  refine sO rfl rfl (oFB rfl (fnOk_of Try.func32 (by decide) rfl) (validName_ok _ _) (fun h12 => ?_) (fun h12 => ?_))
  ·
   refine sV rfl rfl rfl ?_
   show TrP 15 _ _ _ _
   refine tH [(4, _), (5, _), (6, _), (7, _), (8, _), (13, _)] ?_
   refine tF rfl ?_
   refine Tri.skip ?_
   show TrP 15 _ _ _ _
   refine tH [(4, _), (5, _), (6, _), (7, _), (8, _), (13, _)] ?_
   refine tR ?_
   refine sO rfl rfl (oAdd (m := 1) rfl (by omega) ?_)
   refine sV rfl rfl rfl ?_
   exact ⟨l.length - (n + 1), by omega, n + 1, rfl, by omega, all_snoc he hx h12, ⟨rfl, rfl, rfl, trivial⟩, rfl⟩
  ·
   refine sV rfl rfl rfl ?_
   show TrP 15 _ _ _ _
   refine tH [(4, _), (5, _), (6, _), (7, _), (8, _), (13, _)] ?_
   refine tT rfl ?_
   refine Tri.seq ?_
   refine tR ?_
   refine sV rfl rfl rfl ?_
   show TrP 15 _ _ _ _
   refine tH [(2, _), (4, _), (5, _), (6, _), (7, _), (8, _), (13, _)] ?_
   refine Tri.ret ?_
   refine ⟨trivial, _, rfl, ?_⟩
   rw [all_no hx h12]; exact ⟨rfl, rfl⟩
 ·
  show TrP 15 _ _ _ _
  refine tH [(5, _), (6, _), (7, _), (8, _)] ?_
  refine Tri.seq ?_
  refine tF rfl ?_
  refine Tri.exit ?_
  show TrP 15 _ _ _ _
  refine tH [(5, _), (6, _), (7, _), (8, _)] ?_
  refine Tri.seq ?_
  refine tR ?_
  refine sV rfl rfl rfl ?_
  show TrP 15 _ _ _ _
  refine tH [(2, _), (5, _), (6, _), (7, _), (8, _)] ?_
  refine Tri.ret ?_
  refine ⟨trivial, _, rfl, ?_⟩
  rw [List.take_of_length_le (by omega)] at he; rw [he]; exact ⟨rfl, rfl⟩
def vOp (k n : Int) : Bool := if k = 20 ∨ k = 21 then decide (n = 1) else decide (4 ≤ k) && (decide (k ≤ 18) && decide (n = 2))
def isZ (e : Exp) : Bool := decide (e.kind = 0) && (decide (e.n = 0) && (decide (e.name = []) && (decide (e.op = 0) && decide ((e.kids.length : Int) = 0))))
noncomputable def vX (e : Exp) (k : Int) : Bool := decide (e.n = 0) && (decide (e.op = 0) && (decide ((e.kids.length : Int) = k) && vName e.name))
/-- A node that the parser makes, whatever its operands. -/
noncomputable def wfX1 (e : Exp) : Bool :=
  if e.kind = 1 then decide (e.name = []) && (decide (e.op = 0) && decide ((e.kids.length : Int) = 0))
  else if e.kind = 2 then vX e 0 else if e.kind = 3 then vX e 1
  else if e.kind = 5 then decide (e.n = 0) && (decide (e.name = []) && (decide (e.op = 0) && decide ((e.kids.length : Int) = 3)))
  else if e.kind = 4 then decide (e.n = 0) && (decide (e.name = []) && vOp e.op e.kids.length) else false
noncomputable def stepW (_ : Unit) (a : Exp × Nat) : Bool × Unit := (wfX1 a.1, ())
noncomputable def wfX (e : Exp) : Bool := (preE 0 e).all fun a => wfX1 a.1
theorem runL_all {A : Type} (f : A → Bool) : ∀ l : List A, (runL (fun (_ : Unit) a => (f a, ())) () l).1 = l.all f
  | [] => rfl
  | a :: r => by
    simp only [runL, List.all_cons]
    cases h : f a with
    | true => simp [runL_all f r]
    | false => simp
noncomputable def nF (s : List UInt8) (w : Bool) : Bool := if w then vName s else decide (s = [])
noncomputable def eF (e : Exp) (w : Bool) : Bool := if w then wfX e else isZ e
def fk (k : Int) : Bool := decide (k = 1) || decide (k = 2) || decide (k = 3) || decide (k = 4) || decide (k = 5) || decide (k = 6) || decide (k = 7)
/-- Which fields a kind of statement has. -/
def fl (k : Int) : Nat → Bool
  | 0 => decide (k = 1) || decide (k = 2) || decide (k = 6)
  | 1 => decide (k = 6)
  | 2 => decide (k = 7)
  | 3 => decide (k = 2)
  | 4 => decide (k = 1) || decide (k = 2) || decide (k = 3) || decide (k = 4) || decide (k = 5)
  | 5 => decide (k = 6)
  | 6 => decide (k = 3) || decide (k = 4)
  | _ => decide (k = 3)

theorem validOp_ok (k n : Int) (H : Heap) : Sim Try.prog 56 [at' (.int .i64 k), at' (.int .i64 n)] H (fun u G => u = at' (.bool (vOp k n)) ∧ G = H) := by
 refine Sim.of_tri Try.func56 rfl ?_
 show TrP 23 _ _ _ _
 refine Tri.seq ?_
 refine tR ?_
 refine sV rfl rfl rfl ?_
 show TrP 23 _ _ _ _
 refine tH [(0, _), (1, _), (4, _)] ?_
 refine Tri.seq ?_
 refine Tri.seq ?_
 refine tR ?_
 refine sV rfl rfl rfl ?_
 refine sO rfl rfl (oE rfl (fun h6 => ?_) (fun h6 => ?_))
 ·
  refine sV rfl rfl rfl ?_
  iterate 2 refine sN rfl rfl ?_
  refine sV rfl rfl rfl ?_
  show TrP 23 _ _ _ _
  refine tH [(0, _), (1, _), (4, _), (10, _)] ?_
  refine tT rfl ?_
  refine Tri.seq ?_
  refine tR ?_
  refine sV rfl rfl rfl ?_
  refine sO rfl rfl (oE rfl (fun h12 => ?_) (fun h12 => ?_))
  ·
   refine sV rfl rfl rfl ?_
   show TrP 23 _ _ _ _
   refine tH [(0, _), (1, _), (4, _), (10, _)] ?_
   refine Tri.ret ?_
   refine ⟨trivial, _, rfl, ?_⟩
   refine ⟨congrArg (fun b => at' (.bool b)) (?_ : _ = vOp k n), rfl⟩
   unfold vOp
   first
     | (simp [ge_iff_le, *]; done)
     | (simp_all [ge_iff_le]; done)
  ·
   refine sV rfl rfl rfl ?_
   show TrP 23 _ _ _ _
   refine tH [(0, _), (1, _), (4, _), (10, _)] ?_
   refine Tri.ret ?_
   refine ⟨trivial, _, rfl, ?_⟩
   refine ⟨congrArg (fun b => at' (.bool b)) (?_ : _ = vOp k n), rfl⟩
   unfold vOp
   first
     | (simp [ge_iff_le, *]; done)
     | (simp_all [ge_iff_le]; done)
 ·
  iterate 2 refine sV rfl rfl rfl ?_
  refine sO rfl rfl (oE rfl (fun h9 => ?_) (fun h9 => ?_))
  ·
   refine sV rfl rfl rfl ?_
   show TrP 23 _ _ _ _
   refine tH [(0, _), (1, _), (4, _), (10, _)] ?_
   refine tT rfl ?_
   refine Tri.seq ?_
   refine tR ?_
   refine sV rfl rfl rfl ?_
   refine sO rfl rfl (oE rfl (fun h12 => ?_) (fun h12 => ?_))
   ·
    refine sV rfl rfl rfl ?_
    show TrP 23 _ _ _ _
    refine tH [(0, _), (1, _), (4, _), (10, _)] ?_
    refine Tri.ret ?_
    refine ⟨trivial, _, rfl, ?_⟩
    refine ⟨congrArg (fun b => at' (.bool b)) (?_ : _ = vOp k n), rfl⟩
    unfold vOp
    first
      | (simp [ge_iff_le, *]; done)
      | (simp_all [ge_iff_le]; done)
   ·
    refine sV rfl rfl rfl ?_
    show TrP 23 _ _ _ _
    refine tH [(0, _), (1, _), (4, _), (10, _)] ?_
    refine Tri.ret ?_
    refine ⟨trivial, _, rfl, ?_⟩
    refine ⟨congrArg (fun b => at' (.bool b)) (?_ : _ = vOp k n), rfl⟩
    unfold vOp
    first
      | (simp [ge_iff_le, *]; done)
      | (simp_all [ge_iff_le]; done)
  ·
   refine sV rfl rfl rfl ?_
   show TrP 23 _ _ _ _
   refine tH [(0, _), (1, _), (4, _), (10, _)] ?_
   refine tF rfl ?_
   refine Tri.skip ?_
   show TrP 23 _ _ _ _
   refine tH [(0, _), (1, _), (4, _), (10, _)] ?_
   refine Tri.seq ?_
   refine tR ?_
   refine sV rfl rfl rfl ?_
   refine sO rfl rfl (oP rfl (fun h14 => ?_) (fun h14 => ?_))
   ·
    iterate 2 refine sV rfl rfl rfl ?_
    refine sO rfl rfl (oP rfl (fun h17 => ?_) (fun h17 => ?_))
    ·
     iterate 3 refine sV rfl rfl rfl ?_
     refine sO rfl rfl (oE rfl (fun h21 => ?_) (fun h21 => ?_))
     ·
      iterate 2 refine sV rfl rfl rfl ?_
      show TrP 23 _ _ _ _
      refine tH [(0, _), (1, _), (4, _), (10, _)] ?_
      refine Tri.ret ?_
      refine ⟨trivial, _, rfl, ?_⟩
      refine ⟨congrArg (fun b => at' (.bool b)) (?_ : _ = vOp k n), rfl⟩
      unfold vOp
      first
        | (simp [ge_iff_le, *]; done)
        | (simp_all [ge_iff_le]; done)
     ·
      iterate 2 refine sV rfl rfl rfl ?_
      show TrP 23 _ _ _ _
      refine tH [(0, _), (1, _), (4, _), (10, _)] ?_
      refine Tri.ret ?_
      refine ⟨trivial, _, rfl, ?_⟩
      refine ⟨congrArg (fun b => at' (.bool b)) (?_ : _ = vOp k n), rfl⟩
      unfold vOp
      first
        | (simp [ge_iff_le, *]; done)
        | (simp_all [ge_iff_le]; done)
    ·
     iterate 2 refine sV rfl rfl rfl ?_
     iterate 2 refine sN rfl rfl ?_
     iterate 2 refine sV rfl rfl rfl ?_
     show TrP 23 _ _ _ _
     refine tH [(0, _), (1, _), (4, _), (10, _)] ?_
     refine Tri.ret ?_
     refine ⟨trivial, _, rfl, ?_⟩
     refine ⟨congrArg (fun b => at' (.bool b)) (?_ : _ = vOp k n), rfl⟩
     unfold vOp
     first
       | (simp [ge_iff_le, *]; done)
       | (simp_all [ge_iff_le]; done)
   ·
    refine sV rfl rfl rfl ?_
    iterate 2 refine sN rfl rfl ?_
    iterate 2 refine sV rfl rfl rfl ?_
    iterate 2 refine sN rfl rfl ?_
    iterate 2 refine sV rfl rfl rfl ?_
    show TrP 23 _ _ _ _
    refine tH [(0, _), (1, _), (4, _), (10, _)] ?_
    refine Tri.ret ?_
    refine ⟨trivial, _, rfl, ?_⟩
    refine ⟨congrArg (fun b => at' (.bool b)) (?_ : _ = vOp k n), rfl⟩
    unfold vOp
    first
      | (simp [ge_iff_le, *]; done)
      | (simp_all [ge_iff_le]; done)
theorem isZero_ok (e : Exp) (cs : List AT) (H : Heap) (hL : LX H e cs) : Sim Try.prog 66 [.one (.agg cs)] H (fun u G => u = at' (.bool (isZ e)) ∧ G = H) := by
 obtain ⟨p, rfl, hk⟩ := hL.out
 refine Sim.trim ?_
 refine Sim.of_tri Try.func66 rfl ?_
 show TrP 27 _ _ _ _
 refine Tri.seq ?_
 refine tR ?_
 refine sO rfl rfl (oBox (cs := [_, _, _, _, _]) rfl rfl ?_)
 refine sV rfl rfl rfl ?_
 show TrP 27 _ _ _ _
 refine tH [(0, _), (1, _), (2, _)] ?_
 refine Tri.seq ?_
 refine tR ?_
 refine sO rfl rfl (oW (at' (.ptr (some (_, 0)))) rfl rfl ?_)
 refine sO rfl rfl (oLoad (x := .at _) rfl gG rfl ?_)
 refine sO rfl rfl (oE rfl (fun h5 => ?_) (fun h5 => ?_))
 ·
  refine sV rfl rfl rfl ?_
  refine sO rfl rfl (oW (at' (.ptr (some (_, 1)))) rfl rfl ?_)
  refine sO rfl rfl (oLoad (x := .at _) rfl gG rfl ?_)
  refine sO rfl rfl (oE rfl (fun h9 => ?_) (fun h9 => ?_))
  ·
   iterate 2 refine sV rfl rfl rfl ?_
   refine sO rfl rfl (oW (at' (.ptr (some (_, 2)))) rfl rfl ?_)
   refine sO rfl rfl (oLoad (x := .at _) rfl gG rfl ?_)
   refine sO rfl rfl (oS rfl (fun h14 => ?_) (fun h14 => ?_))
   ·
    iterate 2 refine sV rfl rfl rfl ?_
    refine sO rfl rfl (oW (at' (.ptr (some (_, 3)))) rfl rfl ?_)
    refine sO rfl rfl (oLoad (x := .at _) rfl gG rfl ?_)
    refine sO rfl rfl (oE rfl (fun h19 => ?_) (fun h19 => ?_))
    ·
     iterate 2 refine sV rfl rfl rfl ?_
     refine sO rfl rfl (oW (at' (.ptr (some (_, 4)))) rfl rfl ?_)
     refine sO rfl rfl (oLoad (x := .at _) rfl gG rfl ?_)
     refine sV rfl rfl rfl ?_
     refine sO rfl rfl (oE rfl (fun h25 => ?_) (fun h25 => ?_))
     ·
      iterate 2 refine sV rfl rfl rfl ?_
      show TrP 27 _ _ _ _
      refine tH [(0, _), (1, _), (2, _)] ?_
      refine Tri.ret ?_
      refine ⟨trivial, _, rfl, ?_⟩
      refine ⟨kP, rfl, congrArg (fun b => at' (.bool b)) (?_ : _ = isZ e)⟩
      clear hL hk
      unfold isZ
      first
        | (simp [Int.natCast_eq_zero, *]; done)
        | (simp_all [Int.natCast_eq_zero]; done)
     ·
      iterate 2 refine sV rfl rfl rfl ?_
      show TrP 27 _ _ _ _
      refine tH [(0, _), (1, _), (2, _)] ?_
      refine Tri.ret ?_
      refine ⟨trivial, _, rfl, ?_⟩
      refine ⟨kP, rfl, congrArg (fun b => at' (.bool b)) (?_ : _ = isZ e)⟩
      clear hL hk
      unfold isZ
      first
        | (simp [Int.natCast_eq_zero, *]; done)
        | (simp_all [Int.natCast_eq_zero]; done)
    ·
     iterate 2 refine sV rfl rfl rfl ?_
     iterate 4 refine sN rfl rfl ?_
     iterate 2 refine sV rfl rfl rfl ?_
     show TrP 27 _ _ _ _
     refine tH [(0, _), (1, _), (2, _)] ?_
     refine Tri.ret ?_
     refine ⟨trivial, _, rfl, ?_⟩
     refine ⟨kP, rfl, congrArg (fun b => at' (.bool b)) (?_ : _ = isZ e)⟩
     clear hL hk
     unfold isZ
     first
       | (simp [Int.natCast_eq_zero, *]; done)
       | (simp_all [Int.natCast_eq_zero]; done)
   ·
    iterate 2 refine sV rfl rfl rfl ?_
    iterate 3 refine sN rfl rfl ?_
    iterate 2 refine sV rfl rfl rfl ?_
    iterate 4 refine sN rfl rfl ?_
    iterate 2 refine sV rfl rfl rfl ?_
    show TrP 27 _ _ _ _
    refine tH [(0, _), (1, _), (2, _)] ?_
    refine Tri.ret ?_
    refine ⟨trivial, _, rfl, ?_⟩
    refine ⟨kP, rfl, congrArg (fun b => at' (.bool b)) (?_ : _ = isZ e)⟩
    clear hL hk
    unfold isZ
    first
      | (simp [Int.natCast_eq_zero, *]; done)
      | (simp_all [Int.natCast_eq_zero]; done)
  ·
   iterate 2 refine sV rfl rfl rfl ?_
   iterate 3 refine sN rfl rfl ?_
   iterate 2 refine sV rfl rfl rfl ?_
   iterate 3 refine sN rfl rfl ?_
   iterate 2 refine sV rfl rfl rfl ?_
   iterate 4 refine sN rfl rfl ?_
   iterate 2 refine sV rfl rfl rfl ?_
   show TrP 27 _ _ _ _
   refine tH [(0, _), (1, _), (2, _)] ?_
   refine Tri.ret ?_
   refine ⟨trivial, _, rfl, ?_⟩
   refine ⟨kP, rfl, congrArg (fun b => at' (.bool b)) (?_ : _ = isZ e)⟩
   clear hL hk
   unfold isZ
   first
     | (simp [Int.natCast_eq_zero, *]; done)
     | (simp_all [Int.natCast_eq_zero]; done)
 ·
  refine sV rfl rfl rfl ?_
  iterate 3 refine sN rfl rfl ?_
  iterate 2 refine sV rfl rfl rfl ?_
  iterate 3 refine sN rfl rfl ?_
  iterate 2 refine sV rfl rfl rfl ?_
  iterate 3 refine sN rfl rfl ?_
  iterate 2 refine sV rfl rfl rfl ?_
  iterate 4 refine sN rfl rfl ?_
  iterate 2 refine sV rfl rfl rfl ?_
  show TrP 27 _ _ _ _
  refine tH [(0, _), (1, _), (2, _)] ?_
  refine Tri.ret ?_
  refine ⟨trivial, _, rfl, ?_⟩
  refine ⟨kP, rfl, congrArg (fun b => at' (.bool b)) (?_ : _ = isZ e)⟩
  clear hL hk
  unfold isZ
  first
    | (simp [Int.natCast_eq_zero, *]; done)
    | (simp_all [Int.natCast_eq_zero]; done)
theorem wfExpr_ok (e : Exp) (d : Nat) (cs : List AT) (H : Heap) (hL : LX H e cs) : Sim Try.prog 35 [.one (.agg cs), at' (.int .i64 d)] H (fun u G => u = at' (.bool (wfX1 e)) ∧ G = H) := by
 obtain ⟨p, rfl, hk⟩ := hL.out
 refine Sim.trim ?_
 refine Sim.of_tri Try.func35 rfl ?_
 show TrP 87 _ _ _ _
 refine Tri.seq ?_
 refine tR ?_
 refine sO rfl rfl (oBox (cs := [_, _, _, _, _]) rfl rfl ?_)
 refine sV rfl rfl rfl ?_
 show TrP 87 _ _ _ _
 refine tH [(0, _), (2, _), (4, _)] ?_
 refine Tri.seq ?_
 refine tR ?_
 refine sV rfl rfl rfl ?_
 show TrP 87 _ _ _ _
 refine tH [(0, _), (2, _), (4, _), (5, _)] ?_
 refine Tri.seq ?_
 refine Tri.seq ?_
 refine tR ?_
 refine sO rfl rfl (oW (at' (.ptr (some (_, 0)))) rfl rfl ?_)
 refine sO rfl rfl (oLoad (x := .at _) rfl gG rfl ?_)
 show TrP 87 _ _ _ _
 refine tH [(0, _), (2, _), (4, _), (5, _), (7, _)] ?_
 refine Tri.block ?_
 refine Tri.seq ?_
 refine tR ?_
 refine sO rfl rfl (oE rfl (fun h9 => ?_) (fun h9 => ?_))
 ·
  refine sV rfl rfl rfl ?_
  show TrP 87 _ _ _ _
  refine tH [(0, _), (2, _), (4, _), (5, _), (7, _), (8, _)] ?_
  refine tT rfl ?_
  refine Tri.seq ?_
  refine tR ?_
  refine sO rfl rfl (oW (at' (.ptr (some (_, 2)))) rfl rfl ?_)
  refine sO rfl rfl (oLoad (x := .at _) rfl gG rfl ?_)
  refine sO rfl rfl (oS rfl (fun h12 => ?_) (fun h12 => ?_))
  ·
   refine sV rfl rfl rfl ?_
   refine sO rfl rfl (oW (at' (.ptr (some (_, 3)))) rfl rfl ?_)
   refine sO rfl rfl (oLoad (x := .at _) rfl gG rfl ?_)
   refine sO rfl rfl (oE rfl (fun h16 => ?_) (fun h16 => ?_))
   ·
    iterate 2 refine sV rfl rfl rfl ?_
    refine sO rfl rfl (oW (at' (.ptr (some (_, 4)))) rfl rfl ?_)
    refine sO rfl rfl (oLoad (x := .at _) rfl gG rfl ?_)
    refine sV rfl rfl rfl ?_
    refine sO rfl rfl (oE rfl (fun h22 => ?_) (fun h22 => ?_))
    ·
     iterate 2 refine sV rfl rfl rfl ?_
     show TrP 87 _ _ _ _
     refine tH [(0, _), (2, _), (4, _), (5, _), (7, _), (8, _)] ?_
     refine Tri.ret ?_
     refine ⟨trivial, _, rfl, ?_⟩
     refine ⟨kP, rfl, congrArg (fun b => at' (.bool b)) (?_ : _ = wfX1 e)⟩
     clear hL hk
     unfold wfX1
     first
       | (simp [vX, *]; done)
       | (simp_all [vX]; done)
    ·
     iterate 2 refine sV rfl rfl rfl ?_
     show TrP 87 _ _ _ _
     refine tH [(0, _), (2, _), (4, _), (5, _), (7, _), (8, _)] ?_
     refine Tri.ret ?_
     refine ⟨trivial, _, rfl, ?_⟩
     refine ⟨kP, rfl, congrArg (fun b => at' (.bool b)) (?_ : _ = wfX1 e)⟩
     clear hL hk
     unfold wfX1
     first
       | (simp [vX, *]; done)
       | (simp_all [vX]; done)
   ·
    iterate 2 refine sV rfl rfl rfl ?_
    iterate 4 refine sN rfl rfl ?_
    iterate 2 refine sV rfl rfl rfl ?_
    show TrP 87 _ _ _ _
    refine tH [(0, _), (2, _), (4, _), (5, _), (7, _), (8, _)] ?_
    refine Tri.ret ?_
    refine ⟨trivial, _, rfl, ?_⟩
    refine ⟨kP, rfl, congrArg (fun b => at' (.bool b)) (?_ : _ = wfX1 e)⟩
    clear hL hk
    unfold wfX1
    first
      | (simp [vX, *]; done)
      | (simp_all [vX]; done)
  ·
   refine sV rfl rfl rfl ?_
   iterate 3 refine sN rfl rfl ?_
   iterate 2 refine sV rfl rfl rfl ?_
   iterate 4 refine sN rfl rfl ?_
   iterate 2 refine sV rfl rfl rfl ?_
   show TrP 87 _ _ _ _
   refine tH [(0, _), (2, _), (4, _), (5, _), (7, _), (8, _)] ?_
   refine Tri.ret ?_
   refine ⟨trivial, _, rfl, ?_⟩
   refine ⟨kP, rfl, congrArg (fun b => at' (.bool b)) (?_ : _ = wfX1 e)⟩
   clear hL hk
   unfold wfX1
   first
     | (simp [vX, *]; done)
     | (simp_all [vX]; done)
 ·
  refine sV rfl rfl rfl ?_
  show TrP 87 _ _ _ _
  refine tH [(0, _), (2, _), (4, _), (5, _), (7, _), (8, _)] ?_
  refine tF rfl ?_
  refine Tri.seq ?_
  refine tR ?_
  refine sO rfl rfl (oE rfl (fun h25 => ?_) (fun h25 => ?_))
  ·
   refine sV rfl rfl rfl ?_
   show TrP 87 _ _ _ _
   refine tH [(0, _), (2, _), (4, _), (5, _), (7, _), (8, _), (24, _)] ?_
   refine tT rfl ?_
   refine Tri.skip ?_
   show TrP 87 _ _ _ _
   refine tH [(0, _), (2, _), (4, _), (5, _), (7, _), (8, _), (24, _)] ?_
   refine Tri.seq ?_
   refine tR ?_
   refine sO rfl rfl (oW (at' (.ptr (some (_, 1)))) rfl rfl ?_)
   refine sO rfl rfl (oLoad (x := .at _) rfl gG rfl ?_)
   refine sO rfl rfl (oE rfl (fun h69 => ?_) (fun h69 => ?_))
   ·
    refine sV rfl rfl rfl ?_
    refine sO rfl rfl (oW (at' (.ptr (some (_, 3)))) rfl rfl ?_)
    refine sO rfl rfl (oLoad (x := .at _) rfl gG rfl ?_)
    refine sO rfl rfl (oE rfl (fun h73 => ?_) (fun h73 => ?_))
    ·
     iterate 2 refine sV rfl rfl rfl ?_
     refine sO rfl rfl (oW (at' (.ptr (some (_, 4)))) rfl rfl ?_)
     refine sO rfl rfl (oLoad (x := .at _) rfl gG rfl ?_)
     iterate 2 refine sV rfl rfl rfl ?_
     refine sO rfl rfl (oE rfl (fun h80 => ?_) (fun h80 => ?_))
     ·
      iterate 2 refine sV rfl rfl rfl ?_
      refine sO rfl rfl (oW (at' (.ptr (some (_, 2)))) rfl rfl ?_)
      refine sO rfl rfl (oLoad (x := .at _) rfl gG rfl ?_)
      refine sO rfl rfl (oFB rfl (fnOk_of Try.func32 (by decide) rfl) (validName_ok _ _) (fun h85 => ?_) (fun h85 => ?_))
      ·
       iterate 2 refine sV rfl rfl rfl ?_
       show TrP 87 _ _ _ _
       refine tH [(0, _), (2, _), (4, _), (5, _), (7, _), (8, _), (24, _)] ?_
       refine Tri.ret ?_
       refine ⟨trivial, _, rfl, ?_⟩
       refine ⟨kP, rfl, congrArg (fun b => at' (.bool b)) (?_ : _ = wfX1 e)⟩
       clear hL hk
       unfold wfX1
       first
         | (simp [vX, *]; done)
         | (simp_all [vX]; done)
      ·
       iterate 2 refine sV rfl rfl rfl ?_
       show TrP 87 _ _ _ _
       refine tH [(0, _), (2, _), (4, _), (5, _), (7, _), (8, _), (24, _)] ?_
       refine Tri.ret ?_
       refine ⟨trivial, _, rfl, ?_⟩
       refine ⟨kP, rfl, congrArg (fun b => at' (.bool b)) (?_ : _ = wfX1 e)⟩
       clear hL hk
       unfold wfX1
       first
         | (simp [vX, *]; done)
         | (simp_all [vX]; done)
     ·
      iterate 2 refine sV rfl rfl rfl ?_
      iterate 3 refine sN rfl rfl ?_
      iterate 2 refine sV rfl rfl rfl ?_
      show TrP 87 _ _ _ _
      refine tH [(0, _), (2, _), (4, _), (5, _), (7, _), (8, _), (24, _)] ?_
      refine Tri.ret ?_
      refine ⟨trivial, _, rfl, ?_⟩
      refine ⟨kP, rfl, congrArg (fun b => at' (.bool b)) (?_ : _ = wfX1 e)⟩
      clear hL hk
      unfold wfX1
      first
        | (simp [vX, *]; done)
        | (simp_all [vX]; done)
    ·
     iterate 2 refine sV rfl rfl rfl ?_
     iterate 5 refine sN rfl rfl ?_
     iterate 2 refine sV rfl rfl rfl ?_
     iterate 3 refine sN rfl rfl ?_
     iterate 2 refine sV rfl rfl rfl ?_
     show TrP 87 _ _ _ _
     refine tH [(0, _), (2, _), (4, _), (5, _), (7, _), (8, _), (24, _)] ?_
     refine Tri.ret ?_
     refine ⟨trivial, _, rfl, ?_⟩
     refine ⟨kP, rfl, congrArg (fun b => at' (.bool b)) (?_ : _ = wfX1 e)⟩
     clear hL hk
     unfold wfX1
     first
       | (simp [vX, *]; done)
       | (simp_all [vX]; done)
   ·
    refine sV rfl rfl rfl ?_
    iterate 3 refine sN rfl rfl ?_
    iterate 2 refine sV rfl rfl rfl ?_
    iterate 5 refine sN rfl rfl ?_
    iterate 2 refine sV rfl rfl rfl ?_
    iterate 3 refine sN rfl rfl ?_
    iterate 2 refine sV rfl rfl rfl ?_
    show TrP 87 _ _ _ _
    refine tH [(0, _), (2, _), (4, _), (5, _), (7, _), (8, _), (24, _)] ?_
    refine Tri.ret ?_
    refine ⟨trivial, _, rfl, ?_⟩
    refine ⟨kP, rfl, congrArg (fun b => at' (.bool b)) (?_ : _ = wfX1 e)⟩
    clear hL hk
    unfold wfX1
    first
      | (simp [vX, *]; done)
      | (simp_all [vX]; done)
  ·
   refine sV rfl rfl rfl ?_
   show TrP 87 _ _ _ _
   refine tH [(0, _), (2, _), (4, _), (5, _), (7, _), (8, _), (24, _)] ?_
   refine tF rfl ?_
   refine Tri.seq ?_
   refine tR ?_
   refine sO rfl rfl (oE rfl (fun h27 => ?_) (fun h27 => ?_))
   ·
    refine sV rfl rfl rfl ?_
    show TrP 87 _ _ _ _
    refine tH [(0, _), (2, _), (4, _), (5, _), (7, _), (8, _), (24, _), (26, _)] ?_
    refine tT rfl ?_
    refine tR ?_
    refine sV rfl rfl rfl ?_
    show TrP 87 _ _ _ _
    refine tH [(0, _), (2, _), (4, _), (5, _), (7, _), (8, _), (24, _), (26, _)] ?_
    refine Tri.seq ?_
    refine tR ?_
    refine sO rfl rfl (oW (at' (.ptr (some (_, 1)))) rfl rfl ?_)
    refine sO rfl rfl (oLoad (x := .at _) rfl gG rfl ?_)
    refine sO rfl rfl (oE rfl (fun h69 => ?_) (fun h69 => ?_))
    ·
     refine sV rfl rfl rfl ?_
     refine sO rfl rfl (oW (at' (.ptr (some (_, 3)))) rfl rfl ?_)
     refine sO rfl rfl (oLoad (x := .at _) rfl gG rfl ?_)
     refine sO rfl rfl (oE rfl (fun h73 => ?_) (fun h73 => ?_))
     ·
      iterate 2 refine sV rfl rfl rfl ?_
      refine sO rfl rfl (oW (at' (.ptr (some (_, 4)))) rfl rfl ?_)
      refine sO rfl rfl (oLoad (x := .at _) rfl gG rfl ?_)
      iterate 2 refine sV rfl rfl rfl ?_
      refine sO rfl rfl (oE rfl (fun h80 => ?_) (fun h80 => ?_))
      ·
       iterate 2 refine sV rfl rfl rfl ?_
       refine sO rfl rfl (oW (at' (.ptr (some (_, 2)))) rfl rfl ?_)
       refine sO rfl rfl (oLoad (x := .at _) rfl gG rfl ?_)
       refine sO rfl rfl (oFB rfl (fnOk_of Try.func32 (by decide) rfl) (validName_ok _ _) (fun h85 => ?_) (fun h85 => ?_))
       ·
        iterate 2 refine sV rfl rfl rfl ?_
        show TrP 87 _ _ _ _
        refine tH [(0, _), (2, _), (4, _), (5, _), (7, _), (8, _), (24, _), (26, _)] ?_
        refine Tri.ret ?_
        refine ⟨trivial, _, rfl, ?_⟩
        refine ⟨kP, rfl, congrArg (fun b => at' (.bool b)) (?_ : _ = wfX1 e)⟩
        clear hL hk
        unfold wfX1
        first
          | (simp [vX, *]; done)
          | (simp_all [vX]; done)
       ·
        iterate 2 refine sV rfl rfl rfl ?_
        show TrP 87 _ _ _ _
        refine tH [(0, _), (2, _), (4, _), (5, _), (7, _), (8, _), (24, _), (26, _)] ?_
        refine Tri.ret ?_
        refine ⟨trivial, _, rfl, ?_⟩
        refine ⟨kP, rfl, congrArg (fun b => at' (.bool b)) (?_ : _ = wfX1 e)⟩
        clear hL hk
        unfold wfX1
        first
          | (simp [vX, *]; done)
          | (simp_all [vX]; done)
      ·
       iterate 2 refine sV rfl rfl rfl ?_
       iterate 3 refine sN rfl rfl ?_
       iterate 2 refine sV rfl rfl rfl ?_
       show TrP 87 _ _ _ _
       refine tH [(0, _), (2, _), (4, _), (5, _), (7, _), (8, _), (24, _), (26, _)] ?_
       refine Tri.ret ?_
       refine ⟨trivial, _, rfl, ?_⟩
       refine ⟨kP, rfl, congrArg (fun b => at' (.bool b)) (?_ : _ = wfX1 e)⟩
       clear hL hk
       unfold wfX1
       first
         | (simp [vX, *]; done)
         | (simp_all [vX]; done)
     ·
      iterate 2 refine sV rfl rfl rfl ?_
      iterate 5 refine sN rfl rfl ?_
      iterate 2 refine sV rfl rfl rfl ?_
      iterate 3 refine sN rfl rfl ?_
      iterate 2 refine sV rfl rfl rfl ?_
      show TrP 87 _ _ _ _
      refine tH [(0, _), (2, _), (4, _), (5, _), (7, _), (8, _), (24, _), (26, _)] ?_
      refine Tri.ret ?_
      refine ⟨trivial, _, rfl, ?_⟩
      refine ⟨kP, rfl, congrArg (fun b => at' (.bool b)) (?_ : _ = wfX1 e)⟩
      clear hL hk
      unfold wfX1
      first
        | (simp [vX, *]; done)
        | (simp_all [vX]; done)
    ·
     refine sV rfl rfl rfl ?_
     iterate 3 refine sN rfl rfl ?_
     iterate 2 refine sV rfl rfl rfl ?_
     iterate 5 refine sN rfl rfl ?_
     iterate 2 refine sV rfl rfl rfl ?_
     iterate 3 refine sN rfl rfl ?_
     iterate 2 refine sV rfl rfl rfl ?_
     show TrP 87 _ _ _ _
     refine tH [(0, _), (2, _), (4, _), (5, _), (7, _), (8, _), (24, _), (26, _)] ?_
     refine Tri.ret ?_
     refine ⟨trivial, _, rfl, ?_⟩
     refine ⟨kP, rfl, congrArg (fun b => at' (.bool b)) (?_ : _ = wfX1 e)⟩
     clear hL hk
     unfold wfX1
     first
       | (simp [vX, *]; done)
       | (simp_all [vX]; done)
   ·
    refine sV rfl rfl rfl ?_
    show TrP 87 _ _ _ _
    refine tH [(0, _), (2, _), (4, _), (5, _), (7, _), (8, _), (24, _), (26, _)] ?_
    refine tF rfl ?_
    refine Tri.seq ?_
    refine tR ?_
    refine sO rfl rfl (oE rfl (fun h29 => ?_) (fun h29 => ?_))
    ·
     refine sV rfl rfl rfl ?_
     show TrP 87 _ _ _ _
     refine tH [(0, _), (2, _), (4, _), (5, _), (7, _), (8, _), (24, _), (26, _), (28, _)] ?_
     refine tT rfl ?_
     refine Tri.seq ?_
     refine tR ?_
     refine sO rfl rfl (oW (at' (.ptr (some (_, 1)))) rfl rfl ?_)
     refine sO rfl rfl (oLoad (x := .at _) rfl gG rfl ?_)
     refine sO rfl rfl (oE rfl (fun h32 => ?_) (fun h32 => ?_))
     ·
      refine sV rfl rfl rfl ?_
      refine sO rfl rfl (oW (at' (.ptr (some (_, 2)))) rfl rfl ?_)
      refine sO rfl rfl (oLoad (x := .at _) rfl gG rfl ?_)
      refine sO rfl rfl (oS rfl (fun h36 => ?_) (fun h36 => ?_))
      ·
       iterate 2 refine sV rfl rfl rfl ?_
       refine sO rfl rfl (oW (at' (.ptr (some (_, 3)))) rfl rfl ?_)
       refine sO rfl rfl (oLoad (x := .at _) rfl gG rfl ?_)
       refine sO rfl rfl (oE rfl (fun h41 => ?_) (fun h41 => ?_))
       ·
        iterate 2 refine sV rfl rfl rfl ?_
        refine sO rfl rfl (oW (at' (.ptr (some (_, 4)))) rfl rfl ?_)
        refine sO rfl rfl (oLoad (x := .at _) rfl gG rfl ?_)
        refine sV rfl rfl rfl ?_
        refine sO rfl rfl (oE rfl (fun h47 => ?_) (fun h47 => ?_))
        ·
         iterate 2 refine sV rfl rfl rfl ?_
         show TrP 87 _ _ _ _
         refine tH [(0, _), (2, _), (4, _), (5, _), (7, _), (8, _), (24, _), (26, _), (28, _)] ?_
         refine Tri.ret ?_
         refine ⟨trivial, _, rfl, ?_⟩
         refine ⟨kP, rfl, congrArg (fun b => at' (.bool b)) (?_ : _ = wfX1 e)⟩
         clear hL hk
         unfold wfX1
         first
           | (simp [vX, *]; done)
           | (simp_all [vX]; done)
        ·
         iterate 2 refine sV rfl rfl rfl ?_
         show TrP 87 _ _ _ _
         refine tH [(0, _), (2, _), (4, _), (5, _), (7, _), (8, _), (24, _), (26, _), (28, _)] ?_
         refine Tri.ret ?_
         refine ⟨trivial, _, rfl, ?_⟩
         refine ⟨kP, rfl, congrArg (fun b => at' (.bool b)) (?_ : _ = wfX1 e)⟩
         clear hL hk
         unfold wfX1
         first
           | (simp [vX, *]; done)
           | (simp_all [vX]; done)
       ·
        iterate 2 refine sV rfl rfl rfl ?_
        iterate 4 refine sN rfl rfl ?_
        iterate 2 refine sV rfl rfl rfl ?_
        show TrP 87 _ _ _ _
        refine tH [(0, _), (2, _), (4, _), (5, _), (7, _), (8, _), (24, _), (26, _), (28, _)] ?_
        refine Tri.ret ?_
        refine ⟨trivial, _, rfl, ?_⟩
        refine ⟨kP, rfl, congrArg (fun b => at' (.bool b)) (?_ : _ = wfX1 e)⟩
        clear hL hk
        unfold wfX1
        first
          | (simp [vX, *]; done)
          | (simp_all [vX]; done)
      ·
       iterate 2 refine sV rfl rfl rfl ?_
       iterate 3 refine sN rfl rfl ?_
       iterate 2 refine sV rfl rfl rfl ?_
       iterate 4 refine sN rfl rfl ?_
       iterate 2 refine sV rfl rfl rfl ?_
       show TrP 87 _ _ _ _
       refine tH [(0, _), (2, _), (4, _), (5, _), (7, _), (8, _), (24, _), (26, _), (28, _)] ?_
       refine Tri.ret ?_
       refine ⟨trivial, _, rfl, ?_⟩
       refine ⟨kP, rfl, congrArg (fun b => at' (.bool b)) (?_ : _ = wfX1 e)⟩
       clear hL hk
       unfold wfX1
       first
         | (simp [vX, *]; done)
         | (simp_all [vX]; done)
     ·
      refine sV rfl rfl rfl ?_
      iterate 3 refine sN rfl rfl ?_
      iterate 2 refine sV rfl rfl rfl ?_
      iterate 3 refine sN rfl rfl ?_
      iterate 2 refine sV rfl rfl rfl ?_
      iterate 4 refine sN rfl rfl ?_
      iterate 2 refine sV rfl rfl rfl ?_
      show TrP 87 _ _ _ _
      refine tH [(0, _), (2, _), (4, _), (5, _), (7, _), (8, _), (24, _), (26, _), (28, _)] ?_
      refine Tri.ret ?_
      refine ⟨trivial, _, rfl, ?_⟩
      refine ⟨kP, rfl, congrArg (fun b => at' (.bool b)) (?_ : _ = wfX1 e)⟩
      clear hL hk
      unfold wfX1
      first
        | (simp [vX, *]; done)
        | (simp_all [vX]; done)
    ·
     refine sV rfl rfl rfl ?_
     show TrP 87 _ _ _ _
     refine tH [(0, _), (2, _), (4, _), (5, _), (7, _), (8, _), (24, _), (26, _), (28, _)] ?_
     refine tF rfl ?_
     refine Tri.seq ?_
     refine tR ?_
     refine sO rfl rfl (oE rfl (fun h50 => ?_) (fun h50 => ?_))
     ·
      refine sV rfl rfl rfl ?_
      show TrP 87 _ _ _ _
      refine tH [(0, _), (2, _), (4, _), (5, _), (7, _), (8, _), (24, _), (26, _), (28, _), (49, _)] ?_
      refine tT rfl ?_
      refine Tri.seq ?_
      refine tR ?_
      refine sO rfl rfl (oW (at' (.ptr (some (_, 1)))) rfl rfl ?_)
      refine sO rfl rfl (oLoad (x := .at _) rfl gG rfl ?_)
      refine sO rfl rfl (oE rfl (fun h53 => ?_) (fun h53 => ?_))
      ·
       refine sV rfl rfl rfl ?_
       refine sO rfl rfl (oW (at' (.ptr (some (_, 2)))) rfl rfl ?_)
       refine sO rfl rfl (oLoad (x := .at _) rfl gG rfl ?_)
       refine sO rfl rfl (oS rfl (fun h57 => ?_) (fun h57 => ?_))
       ·
        iterate 2 refine sV rfl rfl rfl ?_
        refine sO rfl rfl (oW (at' (.ptr (some (_, 3)))) rfl rfl ?_)
        refine sO rfl rfl (oLoad (x := .at _) rfl gG rfl ?_)
        refine sO rfl rfl (oW (at' (.ptr (some (_, 4)))) rfl rfl ?_)
        refine sO rfl rfl (oLoad (x := .at _) rfl gG rfl ?_)
        refine sV rfl rfl rfl ?_
        refine sO rfl rfl (oFB rfl (fnOk_of Try.func56 (by decide) rfl) (validOp_ok _ _ _) (fun h65 => ?_) (fun h65 => ?_))
        ·
         iterate 2 refine sV rfl rfl rfl ?_
         show TrP 87 _ _ _ _
         refine tH [(0, _), (2, _), (4, _), (5, _), (7, _), (8, _), (24, _), (26, _), (28, _), (49, _)] ?_
         refine Tri.ret ?_
         refine ⟨trivial, _, rfl, ?_⟩
         refine ⟨kP, rfl, congrArg (fun b => at' (.bool b)) (?_ : _ = wfX1 e)⟩
         clear hL hk
         unfold wfX1
         first
           | (simp [vX, *]; done)
           | (simp_all [vX]; done)
        ·
         iterate 2 refine sV rfl rfl rfl ?_
         show TrP 87 _ _ _ _
         refine tH [(0, _), (2, _), (4, _), (5, _), (7, _), (8, _), (24, _), (26, _), (28, _), (49, _)] ?_
         refine Tri.ret ?_
         refine ⟨trivial, _, rfl, ?_⟩
         refine ⟨kP, rfl, congrArg (fun b => at' (.bool b)) (?_ : _ = wfX1 e)⟩
         clear hL hk
         unfold wfX1
         first
           | (simp [vX, *]; done)
           | (simp_all [vX]; done)
       ·
        iterate 2 refine sV rfl rfl rfl ?_
        iterate 6 refine sN rfl rfl ?_
        iterate 2 refine sV rfl rfl rfl ?_
        show TrP 87 _ _ _ _
        refine tH [(0, _), (2, _), (4, _), (5, _), (7, _), (8, _), (24, _), (26, _), (28, _), (49, _)] ?_
        refine Tri.ret ?_
        refine ⟨trivial, _, rfl, ?_⟩
        refine ⟨kP, rfl, congrArg (fun b => at' (.bool b)) (?_ : _ = wfX1 e)⟩
        clear hL hk
        unfold wfX1
        first
          | (simp [vX, *]; done)
          | (simp_all [vX]; done)
      ·
       refine sV rfl rfl rfl ?_
       iterate 3 refine sN rfl rfl ?_
       iterate 2 refine sV rfl rfl rfl ?_
       iterate 6 refine sN rfl rfl ?_
       iterate 2 refine sV rfl rfl rfl ?_
       show TrP 87 _ _ _ _
       refine tH [(0, _), (2, _), (4, _), (5, _), (7, _), (8, _), (24, _), (26, _), (28, _), (49, _)] ?_
       refine Tri.ret ?_
       refine ⟨trivial, _, rfl, ?_⟩
       refine ⟨kP, rfl, congrArg (fun b => at' (.bool b)) (?_ : _ = wfX1 e)⟩
       clear hL hk
       unfold wfX1
       first
         | (simp [vX, *]; done)
         | (simp_all [vX]; done)
     ·
      refine sV rfl rfl rfl ?_
      show TrP 87 _ _ _ _
      refine tH [(0, _), (2, _), (4, _), (5, _), (7, _), (8, _), (24, _), (26, _), (28, _), (49, _)] ?_
      refine tF rfl ?_
      refine Tri.seq ?_
      refine tR ?_
      refine sV rfl rfl rfl ?_
      show TrP 87 _ _ _ _
      refine tH [(0, _), (2, _), (4, _), (5, _), (7, _), (8, _), (24, _), (26, _), (28, _), (49, _)] ?_
      refine Tri.ret ?_
      refine ⟨trivial, _, rfl, ?_⟩
      refine ⟨kP, rfl, congrArg (fun b => at' (.bool b)) (?_ : _ = wfX1 e)⟩
      clear hL hk
      unfold wfX1
      first
        | (simp [vX, *]; done)
        | (simp_all [vX]; done)
theorem cloW (H : Heap) : Clo LX htE H 35 [] [] (fun (_ : Unit) G => Kp [] H G) stepW :=
  ⟨fnOk_of Try.func35 (by decide) rfl, fun _ _ _ h k => h.trans0 k, fun _ _ h => h, fun _ _ _ i hi => (by cases hi), fun s a d G cs h hr _ => (wfExpr_ok a d cs G (hr.kp h)).mono fun u G' ⟨h1, h2⟩ => ⟨h1, fun _ => (by rw [h2]; exact h), by rw [h2]; exact Kp.refl⟩⟩
theorem cloW_val (e : Exp) : (runL stepW () (preE 0 e)).1 = wfX e := runL_all _ _
theorem wfX_call {e : Exp} {H : Heap} {cs : List AT} (hL : LX H e cs) (hh : htE e < 2305843009213693952) : Sim Try.prog 34 [.one (.agg cs), at' (.int .i64 (0 : Nat)), at' (.fn 35 [])] H fun u G => u = at' (.bool (wfX e)) ∧ Kp [] H G := by
  rw [← cloW_val]
  exact (walkExpr_ok (cloW H) e () 0 H cs Kp.refl hL hh (by omega)).mono fun u G ⟨h1, _, h3⟩ => ⟨h1, h3⟩

theorem nameField_ok (s : List UInt8) (w : Bool) (H : Heap) : Sim Try.prog 58 [at' (.str s), at' (.bool w)] H (fun u G => u = at' (.bool (nF s w)) ∧ G = H) := by
 refine Sim.of_tri Try.func58 rfl ?_
 show TrP 10 _ _ _ _
 cases w
 ·
  refine Tri.seq ?_
  refine tR ?_
  refine sV rfl rfl rfl ?_
  show TrP 10 _ _ _ _
  refine tH [(0, _), (1, _), (4, _)] ?_
  refine Tri.seq ?_
  refine Tri.seq ?_
  refine tR ?_
  refine sV rfl rfl rfl ?_
  show TrP 10 _ _ _ _
  refine tH [(0, _), (1, _), (4, _), (5, _)] ?_
  refine tF rfl ?_
  refine Tri.skip ?_
  show TrP 10 _ _ _ _
  refine tH [(0, _), (1, _), (4, _), (5, _)] ?_
  refine Tri.seq ?_
  refine tR ?_
  refine sV rfl rfl rfl ?_
  refine sO rfl rfl (oS rfl (fun h9 => ?_) (fun h9 => ?_))
  ·
   refine sV rfl rfl rfl ?_
   show TrP 10 _ _ _ _
   refine tH [(0, _), (1, _), (4, _), (5, _)] ?_
   refine Tri.ret ?_
   refine ⟨trivial, _, rfl, ?_⟩
   refine ⟨congrArg (fun b => at' (.bool b)) (?_ : _ = nF s _), rfl⟩
   unfold nF
   simp [*]
  ·
   refine sV rfl rfl rfl ?_
   show TrP 10 _ _ _ _
   refine tH [(0, _), (1, _), (4, _), (5, _)] ?_
   refine Tri.ret ?_
   refine ⟨trivial, _, rfl, ?_⟩
   refine ⟨congrArg (fun b => at' (.bool b)) (?_ : _ = nF s _), rfl⟩
   unfold nF
   simp [*]
 ·
  refine Tri.seq ?_
  refine tR ?_
  refine sV rfl rfl rfl ?_
  show TrP 10 _ _ _ _
  refine tH [(0, _), (1, _), (4, _)] ?_
  refine Tri.seq ?_
  refine Tri.seq ?_
  refine tR ?_
  refine sV rfl rfl rfl ?_
  show TrP 10 _ _ _ _
  refine tH [(0, _), (1, _), (4, _), (5, _)] ?_
  refine tT rfl ?_
  refine Tri.seq ?_
  refine tR ?_
  refine sV rfl rfl rfl ?_
  refine sO rfl rfl (oFB rfl (fnOk_of Try.func32 (by decide) rfl) (validName_ok _ _) (fun h7 => ?_) (fun h7 => ?_))
  ·
   refine sV rfl rfl rfl ?_
   show TrP 10 _ _ _ _
   refine tH [(0, _), (1, _), (4, _), (5, _)] ?_
   refine Tri.ret ?_
   refine ⟨trivial, _, rfl, ?_⟩
   refine ⟨congrArg (fun b => at' (.bool b)) (?_ : _ = nF s _), rfl⟩
   unfold nF
   simp [*]
  ·
   refine sV rfl rfl rfl ?_
   show TrP 10 _ _ _ _
   refine tH [(0, _), (1, _), (4, _), (5, _)] ?_
   refine Tri.ret ?_
   refine ⟨trivial, _, rfl, ?_⟩
   refine ⟨congrArg (fun b => at' (.bool b)) (?_ : _ = nF s _), rfl⟩
   unfold nF
   simp [*]
theorem exprField_ok (e : Exp) (w : Bool) (cs : List AT) (H : Heap) (hL : LX H e cs) (hh : htE e < 2305843009213693952) : Sim Try.prog 59 [.one (.agg cs), at' (.bool w)] H (fun u G => u = at' (.bool (eF e w)) ∧ G = H) := by
 obtain ⟨p, rfl, hk⟩ := hL.out
 refine Sim.trim ?_
 refine Sim.of_tri Try.func59 rfl ?_
 show TrP 10 _ _ _ _
 cases w
 ·
  refine Tri.seq ?_
  refine tR ?_
  refine sO rfl rfl (oBox (cs := [_, _, _, _, _]) rfl rfl ?_)
  refine sV rfl rfl rfl ?_
  show TrP 10 _ _ _ _
  refine tH [(0, _), (1, _), (2, _), (4, _)] ?_
  refine Tri.seq ?_
  refine Tri.seq ?_
  refine tR ?_
  refine sV rfl rfl rfl ?_
  show TrP 10 _ _ _ _
  refine tH [(0, _), (1, _), (2, _), (4, _), (5, _)] ?_
  refine tF rfl ?_
  refine Tri.skip ?_
  show TrP 10 _ _ _ _
  refine tH [(0, _), (1, _), (2, _), (4, _), (5, _)] ?_
  refine Tri.seq ?_
  refine tR ?_
  refine sO rfl rfl (oLoad (x := .agg [_, _, _, _, _]) rfl gG rfl ?_)
  refine sO rfl rfl (oFB rfl (fnOk_of Try.func66 (by decide) rfl) (isZero_ok e _ _ (LX.kp kP _ _ hL)) (fun h9 => ?_) (fun h9 => ?_))
  ·
   refine sV rfl rfl rfl ?_
   show TrP 10 _ _ _ _
   refine tH [(0, _), (1, _), (2, _), (4, _), (5, _)] ?_
   refine Tri.ret ?_
   refine ⟨trivial, _, rfl, ?_⟩
   refine ⟨(by first | exact (Kp.push Kp.refl).trans0 hK | exact kP), rfl, congrArg (fun b => at' (.bool b)) (?_ : _ = eF e _)⟩
   unfold eF
   simp [*]
  ·
   refine sV rfl rfl rfl ?_
   show TrP 10 _ _ _ _
   refine tH [(0, _), (1, _), (2, _), (4, _), (5, _)] ?_
   refine Tri.ret ?_
   refine ⟨trivial, _, rfl, ?_⟩
   refine ⟨(by first | exact (Kp.push Kp.refl).trans0 hK | exact kP), rfl, congrArg (fun b => at' (.bool b)) (?_ : _ = eF e _)⟩
   unfold eF
   simp [*]
 ·
  refine Tri.seq ?_
  refine tR ?_
  refine sO rfl rfl (oBox (cs := [_, _, _, _, _]) rfl rfl ?_)
  refine sV rfl rfl rfl ?_
  show TrP 10 _ _ _ _
  refine tH [(0, _), (1, _), (2, _), (4, _)] ?_
  refine Tri.seq ?_
  refine Tri.seq ?_
  refine tR ?_
  refine sV rfl rfl rfl ?_
  show TrP 10 _ _ _ _
  refine tH [(0, _), (1, _), (2, _), (4, _), (5, _)] ?_
  refine tT rfl ?_
  refine Tri.seq ?_
  refine tR ?_
  refine sO rfl rfl (oLoad (x := .agg [_, _, _, _, _]) rfl gG rfl ?_)
  refine sO rfl rfl (oCB rfl (fnOk_of Try.func34 (by decide) rfl) (wfX_call (LX.kp kP _ _ hL) (by omega)) (fun G1 hK h7 => ?_) (fun G1 hK h7 => ?_))
  ·
   refine sV rfl rfl rfl ?_
   show TrP 10 _ _ _ _
   refine tH [(0, _), (1, _), (2, _), (4, _), (5, _)] ?_
   refine Tri.ret ?_
   refine ⟨trivial, _, rfl, ?_⟩
   refine ⟨(by first | exact (Kp.push Kp.refl).trans0 hK | exact kP), rfl, congrArg (fun b => at' (.bool b)) (?_ : _ = eF e _)⟩
   unfold eF
   simp [*]
  ·
   refine sV rfl rfl rfl ?_
   show TrP 10 _ _ _ _
   refine tH [(0, _), (1, _), (2, _), (4, _), (5, _)] ?_
   refine Tri.ret ?_
   refine ⟨trivial, _, rfl, ?_⟩
   refine ⟨(by first | exact (Kp.push Kp.refl).trans0 hK | exact kP), rfl, congrArg (fun b => at' (.bool b)) (?_ : _ = eF e _)⟩
   unfold eF
   simp [*]
theorem fields_ok (k : Int) (H : Heap) : Sim Try.prog 57 [at' (.int .i64 k)] H (fun u G => u = .tup [.agg [.bool (fl k 0), .bool (fl k 1), .bool (fl k 2), .bool (fl k 3), .bool (fl k 4), .bool (fl k 5), .bool (fl k 6), .bool (fl k 7)], .at (.bool (fk k))] ∧ G = H) := by
 refine Sim.trim ?_
 refine Sim.of_tri Try.func57 rfl ?_
 show TrP 27 _ _ _ _
 refine Tri.seq ?_
 refine tR ?_
 refine sO rfl rfl (oAlloc (cs := [.bool false, .bool false, .bool false, .bool false, .bool false, .bool false, .bool false, .bool false]) rfl rfl ?_)
 refine sV rfl rfl rfl ?_
 show TrP 27 _ _ _ _
 refine tH [(0, _), (2, _), (3, _)] ?_
 refine Tri.seq ?_
 refine Tri.seq ?_
 refine tR ?_
 refine sV rfl rfl rfl ?_
 show TrP 27 _ _ _ _
 refine tH [(0, _), (2, _), (3, _), (4, _)] ?_
 refine Tri.block ?_
 refine Tri.seq ?_
 refine tR ?_
 refine sO rfl rfl (oE rfl (fun h6 => ?_) (fun h6 => ?_))
 ·
  refine sV rfl rfl rfl ?_
  show TrP 27 _ _ _ _
  refine tH [(0, _), (2, _), (3, _), (4, _), (5, _)] ?_
  refine tT rfl ?_
  refine Tri.seq ?_
  refine tR ?_
  refine sO rfl rfl (oW (.one (.agg [_, .bool false, .bool false, .bool false, _, .bool false, .bool false, .bool false])) rfl rfl ?_)
  refine sO rfl rfl (oStore (n := 8) (cs' := [_, _, _, _, _, _, _, _]) rfl rfl rfl gG rfl (Nat.le_of_ble_eq_true rfl) rfl rfl ?_)
  refine sV rfl rfl rfl ?_
  show TrP 27 _ _ _ _
  refine tH [(0, _), (2, _), (3, _), (4, _), (5, _)] ?_
  refine Tri.ret ?_
  refine ⟨trivial, _, (resA_cell (x := .agg [_, _, _, _, _, _, _, _]) rfl gG rfl (resA_tmp rfl rfl)), ?_⟩
  first
    | (subst h24; exact ⟨kP, rfl, rfl⟩)
    | (subst h21; exact ⟨kP, rfl, rfl⟩)
    | (subst h18; exact ⟨kP, rfl, rfl⟩)
    | (subst h15; exact ⟨kP, rfl, rfl⟩)
    | (subst h12; exact ⟨kP, rfl, rfl⟩)
    | (subst h9; exact ⟨kP, rfl, rfl⟩)
    | (subst h6; exact ⟨kP, rfl, rfl⟩)
 ·
  refine sV rfl rfl rfl ?_
  show TrP 27 _ _ _ _
  refine tH [(0, _), (2, _), (3, _), (4, _), (5, _)] ?_
  refine tF rfl ?_
  refine Tri.seq ?_
  refine tR ?_
  refine sO rfl rfl (oE rfl (fun h9 => ?_) (fun h9 => ?_))
  ·
   refine sV rfl rfl rfl ?_
   show TrP 27 _ _ _ _
   refine tH [(0, _), (2, _), (3, _), (4, _), (5, _), (8, _)] ?_
   refine tT rfl ?_
   refine Tri.seq ?_
   refine tR ?_
   refine sO rfl rfl (oW (.one (.agg [_, .bool false, .bool false, _, _, .bool false, .bool false, .bool false])) rfl rfl ?_)
   refine sO rfl rfl (oStore (n := 8) (cs' := [_, _, _, _, _, _, _, _]) rfl rfl rfl gG rfl (Nat.le_of_ble_eq_true rfl) rfl rfl ?_)
   refine sV rfl rfl rfl ?_
   show TrP 27 _ _ _ _
   refine tH [(0, _), (2, _), (3, _), (4, _), (5, _), (8, _)] ?_
   refine Tri.ret ?_
   refine ⟨trivial, _, (resA_cell (x := .agg [_, _, _, _, _, _, _, _]) rfl gG rfl (resA_tmp rfl rfl)), ?_⟩
   first
     | (subst h24; exact ⟨kP, rfl, rfl⟩)
     | (subst h21; exact ⟨kP, rfl, rfl⟩)
     | (subst h18; exact ⟨kP, rfl, rfl⟩)
     | (subst h15; exact ⟨kP, rfl, rfl⟩)
     | (subst h12; exact ⟨kP, rfl, rfl⟩)
     | (subst h9; exact ⟨kP, rfl, rfl⟩)
     | (subst h6; exact ⟨kP, rfl, rfl⟩)
  ·
   refine sV rfl rfl rfl ?_
   show TrP 27 _ _ _ _
   refine tH [(0, _), (2, _), (3, _), (4, _), (5, _), (8, _)] ?_
   refine tF rfl ?_
   refine Tri.seq ?_
   refine tR ?_
   refine sO rfl rfl (oE rfl (fun h12 => ?_) (fun h12 => ?_))
   ·
    refine sV rfl rfl rfl ?_
    show TrP 27 _ _ _ _
    refine tH [(0, _), (2, _), (3, _), (4, _), (5, _), (8, _), (11, _)] ?_
    refine tT rfl ?_
    refine Tri.seq ?_
    refine tR ?_
    refine sO rfl rfl (oW (.one (.agg [.bool false, .bool false, .bool false, .bool false, _, .bool false, _, _])) rfl rfl ?_)
    refine sO rfl rfl (oStore (n := 8) (cs' := [_, _, _, _, _, _, _, _]) rfl rfl rfl gG rfl (Nat.le_of_ble_eq_true rfl) rfl rfl ?_)
    refine sV rfl rfl rfl ?_
    show TrP 27 _ _ _ _
    refine tH [(0, _), (2, _), (3, _), (4, _), (5, _), (8, _), (11, _)] ?_
    refine Tri.ret ?_
    refine ⟨trivial, _, (resA_cell (x := .agg [_, _, _, _, _, _, _, _]) rfl gG rfl (resA_tmp rfl rfl)), ?_⟩
    first
      | (subst h24; exact ⟨kP, rfl, rfl⟩)
      | (subst h21; exact ⟨kP, rfl, rfl⟩)
      | (subst h18; exact ⟨kP, rfl, rfl⟩)
      | (subst h15; exact ⟨kP, rfl, rfl⟩)
      | (subst h12; exact ⟨kP, rfl, rfl⟩)
      | (subst h9; exact ⟨kP, rfl, rfl⟩)
      | (subst h6; exact ⟨kP, rfl, rfl⟩)
   ·
    refine sV rfl rfl rfl ?_
    show TrP 27 _ _ _ _
    refine tH [(0, _), (2, _), (3, _), (4, _), (5, _), (8, _), (11, _)] ?_
    refine tF rfl ?_
    refine Tri.seq ?_
    refine tR ?_
    refine sO rfl rfl (oE rfl (fun h15 => ?_) (fun h15 => ?_))
    ·
     refine sV rfl rfl rfl ?_
     show TrP 27 _ _ _ _
     refine tH [(0, _), (2, _), (3, _), (4, _), (5, _), (8, _), (11, _), (14, _)] ?_
     refine tT rfl ?_
     refine Tri.seq ?_
     refine tR ?_
     refine sO rfl rfl (oW (.one (.agg [.bool false, .bool false, .bool false, .bool false, _, .bool false, _, .bool false])) rfl rfl ?_)
     refine sO rfl rfl (oStore (n := 8) (cs' := [_, _, _, _, _, _, _, _]) rfl rfl rfl gG rfl (Nat.le_of_ble_eq_true rfl) rfl rfl ?_)
     refine sV rfl rfl rfl ?_
     show TrP 27 _ _ _ _
     refine tH [(0, _), (2, _), (3, _), (4, _), (5, _), (8, _), (11, _), (14, _)] ?_
     refine Tri.ret ?_
     refine ⟨trivial, _, (resA_cell (x := .agg [_, _, _, _, _, _, _, _]) rfl gG rfl (resA_tmp rfl rfl)), ?_⟩
     first
       | (subst h24; exact ⟨kP, rfl, rfl⟩)
       | (subst h21; exact ⟨kP, rfl, rfl⟩)
       | (subst h18; exact ⟨kP, rfl, rfl⟩)
       | (subst h15; exact ⟨kP, rfl, rfl⟩)
       | (subst h12; exact ⟨kP, rfl, rfl⟩)
       | (subst h9; exact ⟨kP, rfl, rfl⟩)
       | (subst h6; exact ⟨kP, rfl, rfl⟩)
    ·
     refine sV rfl rfl rfl ?_
     show TrP 27 _ _ _ _
     refine tH [(0, _), (2, _), (3, _), (4, _), (5, _), (8, _), (11, _), (14, _)] ?_
     refine tF rfl ?_
     refine Tri.seq ?_
     refine tR ?_
     refine sO rfl rfl (oE rfl (fun h18 => ?_) (fun h18 => ?_))
     ·
      refine sV rfl rfl rfl ?_
      show TrP 27 _ _ _ _
      refine tH [(0, _), (2, _), (3, _), (4, _), (5, _), (8, _), (11, _), (14, _), (17, _)] ?_
      refine tT rfl ?_
      refine Tri.seq ?_
      refine tR ?_
      refine sO rfl rfl (oW (.one (.agg [.bool false, .bool false, .bool false, .bool false, _, .bool false, .bool false, .bool false])) rfl rfl ?_)
      refine sO rfl rfl (oStore (n := 8) (cs' := [_, _, _, _, _, _, _, _]) rfl rfl rfl gG rfl (Nat.le_of_ble_eq_true rfl) rfl rfl ?_)
      refine sV rfl rfl rfl ?_
      show TrP 27 _ _ _ _
      refine tH [(0, _), (2, _), (3, _), (4, _), (5, _), (8, _), (11, _), (14, _), (17, _)] ?_
      refine Tri.ret ?_
      refine ⟨trivial, _, (resA_cell (x := .agg [_, _, _, _, _, _, _, _]) rfl gG rfl (resA_tmp rfl rfl)), ?_⟩
      first
        | (subst h24; exact ⟨kP, rfl, rfl⟩)
        | (subst h21; exact ⟨kP, rfl, rfl⟩)
        | (subst h18; exact ⟨kP, rfl, rfl⟩)
        | (subst h15; exact ⟨kP, rfl, rfl⟩)
        | (subst h12; exact ⟨kP, rfl, rfl⟩)
        | (subst h9; exact ⟨kP, rfl, rfl⟩)
        | (subst h6; exact ⟨kP, rfl, rfl⟩)
     ·
      refine sV rfl rfl rfl ?_
      show TrP 27 _ _ _ _
      refine tH [(0, _), (2, _), (3, _), (4, _), (5, _), (8, _), (11, _), (14, _), (17, _)] ?_
      refine tF rfl ?_
      refine Tri.seq ?_
      refine tR ?_
      refine sO rfl rfl (oE rfl (fun h21 => ?_) (fun h21 => ?_))
      ·
       refine sV rfl rfl rfl ?_
       show TrP 27 _ _ _ _
       refine tH [(0, _), (2, _), (3, _), (4, _), (5, _), (8, _), (11, _), (14, _), (17, _), (20, _)] ?_
       refine tT rfl ?_
       refine Tri.seq ?_
       refine tR ?_
       refine sO rfl rfl (oW (.one (.agg [_, _, .bool false, .bool false, .bool false, _, .bool false, .bool false])) rfl rfl ?_)
       refine sO rfl rfl (oStore (n := 8) (cs' := [_, _, _, _, _, _, _, _]) rfl rfl rfl gG rfl (Nat.le_of_ble_eq_true rfl) rfl rfl ?_)
       refine sV rfl rfl rfl ?_
       show TrP 27 _ _ _ _
       refine tH [(0, _), (2, _), (3, _), (4, _), (5, _), (8, _), (11, _), (14, _), (17, _), (20, _)] ?_
       refine Tri.ret ?_
       refine ⟨trivial, _, (resA_cell (x := .agg [_, _, _, _, _, _, _, _]) rfl gG rfl (resA_tmp rfl rfl)), ?_⟩
       first
         | (subst h24; exact ⟨kP, rfl, rfl⟩)
         | (subst h21; exact ⟨kP, rfl, rfl⟩)
         | (subst h18; exact ⟨kP, rfl, rfl⟩)
         | (subst h15; exact ⟨kP, rfl, rfl⟩)
         | (subst h12; exact ⟨kP, rfl, rfl⟩)
         | (subst h9; exact ⟨kP, rfl, rfl⟩)
         | (subst h6; exact ⟨kP, rfl, rfl⟩)
      ·
       refine sV rfl rfl rfl ?_
       show TrP 27 _ _ _ _
       refine tH [(0, _), (2, _), (3, _), (4, _), (5, _), (8, _), (11, _), (14, _), (17, _), (20, _)] ?_
       refine tF rfl ?_
       refine Tri.seq ?_
       refine tR ?_
       refine sO rfl rfl (oE rfl (fun h24 => ?_) (fun h24 => ?_))
       ·
        refine sV rfl rfl rfl ?_
        show TrP 27 _ _ _ _
        refine tH [(0, _), (2, _), (3, _), (4, _), (5, _), (8, _), (11, _), (14, _), (17, _), (20, _), (23, _)] ?_
        refine tT rfl ?_
        refine Tri.seq ?_
        refine tR ?_
        refine sO rfl rfl (oW (.one (.agg [.bool false, .bool false, _, .bool false, .bool false, .bool false, .bool false, .bool false])) rfl rfl ?_)
        refine sO rfl rfl (oStore (n := 8) (cs' := [_, _, _, _, _, _, _, _]) rfl rfl rfl gG rfl (Nat.le_of_ble_eq_true rfl) rfl rfl ?_)
        refine sV rfl rfl rfl ?_
        show TrP 27 _ _ _ _
        refine tH [(0, _), (2, _), (3, _), (4, _), (5, _), (8, _), (11, _), (14, _), (17, _), (20, _), (23, _)] ?_
        refine Tri.ret ?_
        refine ⟨trivial, _, (resA_cell (x := .agg [_, _, _, _, _, _, _, _]) rfl gG rfl (resA_tmp rfl rfl)), ?_⟩
        first
          | (subst h24; exact ⟨kP, rfl, rfl⟩)
          | (subst h21; exact ⟨kP, rfl, rfl⟩)
          | (subst h18; exact ⟨kP, rfl, rfl⟩)
          | (subst h15; exact ⟨kP, rfl, rfl⟩)
          | (subst h12; exact ⟨kP, rfl, rfl⟩)
          | (subst h9; exact ⟨kP, rfl, rfl⟩)
          | (subst h6; exact ⟨kP, rfl, rfl⟩)
       ·
        refine sV rfl rfl rfl ?_
        show TrP 27 _ _ _ _
        refine tH [(0, _), (2, _), (3, _), (4, _), (5, _), (8, _), (11, _), (14, _), (17, _), (20, _), (23, _)] ?_
        refine tF rfl ?_
        refine Tri.skip ?_
        show TrP 27 _ _ _ _
        refine tH [(0, _), (2, _), (3, _), (4, _), (5, _), (8, _), (11, _), (14, _), (17, _), (20, _), (23, _)] ?_
        refine Tri.seq ?_
        refine tR ?_
        refine sO rfl rfl (oW (.one (.agg [.bool false, .bool false, .bool false, .bool false, .bool false, .bool false, .bool false, .bool false])) rfl rfl ?_)
        refine sO rfl rfl (oStore (n := 8) (cs' := [_, _, _, _, _, _, _, _]) rfl rfl rfl gG rfl (Nat.le_of_ble_eq_true rfl) rfl rfl ?_)
        refine sV rfl rfl rfl ?_
        show TrP 27 _ _ _ _
        refine tH [(0, _), (2, _), (3, _), (4, _), (5, _), (8, _), (11, _), (14, _), (17, _), (20, _), (23, _)] ?_
        refine Tri.ret ?_
        refine ⟨trivial, _, (resA_cell (x := .agg [_, _, _, _, _, _, _, _]) rfl gG rfl (resA_tmp rfl rfl)), ?_⟩
        exact ⟨kP, rfl, by simp [mkRes, fl, fk, h6, h9, h12, h15, h18, h21, h24]⟩
end Go.Proofs.Ytceakkomleaibaa
