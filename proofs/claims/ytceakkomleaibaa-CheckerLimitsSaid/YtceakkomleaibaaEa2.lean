/-
  THE ENGINE, part 2: what each operation does to abstract values and the abstract heap. Over any program. Written in this session.
-/
import Derived.Test.YtceakkomleaibaaEa1
namespace Go.Ea

/-- Two texts, byte by byte. -/
noncomputable def eqS (x : List UInt8) : List UInt8 → Bool :=
  List.rec (motive := fun _ => List UInt8 → Bool) (fun y => List.casesOn y true (fun _ _ => false)) (fun a _ ih y => List.casesOn y false (fun b m => bif Nat.beq a.toNat b.toNat then ih m else false)) x
theorem eqS_eq : ∀ x y : List UInt8, eqS x y = (x == y)
  | [], [] => rfl
  | [], _ :: _ => rfl
  | _ :: _, [] => rfl
  | a :: x, b :: y => by
    show (bif Nat.beq a.toNat b.toNat then eqS x y else false) = _
    rw [eqS_eq x y, List.cons_beq_cons]
    by_cases e : a = b
    · subst e; simp
    · have : Nat.beq a.toNat b.toNat = false := by
        rw [Bool.eq_false_iff]; intro h; exact e (UInt8.toNat_inj.1 (Nat.eq_of_beq_eq_true h))
      rw [this, (beq_eq_false_iff_ne).2 e]; rfl
/-- Wrapping, at once where nothing wraps. -/
def half : IntKind → Nat
  | .i8 => 128 | .i16 => 32768 | .i32 => 2147483648 | .i64 => 9223372036854775808
  | .u8 => 256 | .u16 => 65536 | .u32 => 4294967296 | .u64 => 18446744073709551616
def sgn : IntKind → Bool
  | .i8 | .i16 | .i32 | .i64 => true
  | _ => false
def wrapA (k : IntKind) (n : Int) : Int := match n with
  | .ofNat m => bif Nat.blt m (half k) then .ofNat m else k.wrap (.ofNat m)
  | .negSucc m => bif sgn k && Nat.blt m (half k) then .negSucc m else k.wrap (.negSucc m)
theorem wrap_num (k : IntKind) (n M h : Int) (hM : (2 ^ k.bits : Int) = M) (hh : (2 ^ (k.bits - 1) : Int) = h) : k.wrap n = if k.signed = true ∧ h ≤ n % M then n % M - M else n % M := by
  unfold IntKind.wrap
  rw [hM, hh]
  by_cases c : k.signed = true ∧ h ≤ n % M
  · rw [if_pos c, if_pos (by simp [c.1, c.2])]
  · rw [if_neg c, if_neg (by simpa using c)]
theorem wrapA_eq (k : IntKind) (n : Int) : wrapA k n = k.wrap n := by
  have w8 := wrap_num .i8 n 256 128 rfl rfl
  have w16 := wrap_num .i16 n 65536 32768 rfl rfl
  have w32 := wrap_num .i32 n 4294967296 2147483648 rfl rfl
  have w64 := wrap_num .i64 n 18446744073709551616 9223372036854775808 rfl rfl
  have u8 := wrap_num .u8 n 256 128 rfl rfl
  have u16 := wrap_num .u16 n 65536 32768 rfl rfl
  have u32 := wrap_num .u32 n 4294967296 2147483648 rfl rfl
  have u64 := wrap_num .u64 n 18446744073709551616 9223372036854775808 rfl rfl
  simp only [IntKind.signed, true_and, false_and, if_false, Bool.false_eq_true] at w8 w16 w32 w64 u8 u16 u32 u64
  cases n with
  | ofNat m =>
    simp only [Int.ofNat_eq_natCast] at w8 w16 w32 w64 u8 u16 u32 u64
    simp only [wrapA, cond_eq_ite, Nat.blt_eq, Int.ofNat_eq_natCast]
    split
    · rename_i h
      cases k <;> simp only [half] at h <;> first
        | (rw [w8, if_neg (by omega)]; omega)
        | (rw [w16, if_neg (by omega)]; omega)
        | (rw [w32, if_neg (by omega)]; omega)
        | (rw [w64, if_neg (by omega)]; omega)
        | (rw [u8]; omega)
        | (rw [u16]; omega)
        | (rw [u32]; omega)
        | (rw [u64]; omega)
    · rfl
  | negSucc m =>
    simp only [Int.negSucc_eq] at w8 w16 w32 w64
    simp only [wrapA, cond_eq_ite, Bool.and_eq_true, Nat.blt_eq, Int.negSucc_eq]
    split
    · rename_i h
      obtain ⟨h1, h⟩ := h
      cases k <;> simp only [sgn, Bool.false_eq_true] at h1 <;> simp only [half] at h <;> first
        | (rw [w8, if_pos (by omega)]; omega)
        | (rw [w16, if_pos (by omega)]; omega)
        | (rw [w32, if_pos (by omega)]; omega)
        | (rw [w64, if_pos (by omega)]; omega)
    · rfl
/-- 0 ≤ i < n. -/
def inR : Int → Nat → Bool
  | .ofNat m, n => Nat.blt m n
  | .negSucc _, _ => false
theorem inR_iff (i : Int) (n : Nat) : inR i n = true ↔ 0 ≤ i ∧ i < n := by
  cases i with
  | ofNat m => simp [inR, Nat.blt_eq]
  | negSucc m => simp [inR]
/-- Constants of the code. -/
def cvA : Value → Option AT
  | .bool b => some (.bool b)
  | .int k n => some (.int k n)
  | .string s => some (.str s.data.toList)
  | .pointer none => some (.ptr none)
  | .slice none 0 0 => some (.slice none 0)
  | .map none => some (.map none)
  | .nilFunc => some .nilFn
  | .nilIface => some .nilIf
  | _ => none
def cvL : List Value → Option (List AT)
  | [] => some []
  | v :: r => match cvA v, cvL r with
    | some a, some l => some (a :: l)
    | _, _ => none
def cv1 : Value → Option A1
  | .agg cs => match cvL cs.toList with
    | some l => some (.agg l)
    | none => none
  | v => match cvA v with
    | some a => some (.at a)
    | none => none
noncomputable def rho (env : Nat → Option AV) : Operand → Option AV
  | .tmp t => env t
  | .const v => match cv1 v with
    | some x => some (.one x)
    | none => none
  | .func f => some (.one (.at (.fn f [])))
  | .global _ => none
noncomputable def rhos (env : Nat → Option AV) (l : List Operand) : Option (List AV) :=
  List.rec (some []) (fun x _ ih => match rho env x, ih with
    | some a, some l => some (a :: l)
    | _, _ => none) l

inductive OpR where
  | val (v : AV) (H : Heap)
  | call (f : Nat) (args : List AV)

abbrev at' (a : AT) : AV := .one (.at a)

def infoOf (P : Program) (t : TypeId) : Option TypeInfo := P.info? t
def sizeO (P : Program) (t : TypeId) : Option Nat := match P.info? t with | some i => some i.size | none => none
def isAggD : TypeDesc → Bool
  | .struct _ | .array _ _ => true
  | _ => false
def zeroOf (P : Program) (t : TypeId) : Option A1 := match P.info? t with
  | some i => match i.zero with
    | some z => cv1 z
    | none => none
  | none => none

/-- The cells from o on are these. -/
def putL (cs : List AT) (o : Nat) (xs : List AT) : List AT := cs.take o ++ xs ++ cs.drop (o + xs.length)
def fillA (place : Nat → Option (Nat × Nat)) : List AT → List (Nat × AV) → Option (List AT)
  | cs, [] => some cs
  | cs, (i, .one x) :: r => match place i with
    | some (off, size) => bif Nat.beq x.cells.length size && Nat.ble (off + size) cs.length then fillA place (putL cs off x.cells) r else none
    | none => none
  | _, (_, .tup _) :: _ => none
noncomputable def partsOf (env : Nat → Option AV) (l : List (Nat × Operand)) : Option (List (Nat × AV)) :=
  List.rec (some []) (fun x _ ih => match rho env x.2, ih with
    | some a, some l => some ((x.1, a) :: l)
    | _, _ => none) l

def partA (P : Program) (t : TypeId) (cs : List AT) (off : Nat) : Option A1 := match P.underlying t, sizeO P t with
  | some d, some n => bif isAggD d then (bif Nat.ble (off + n) cs.length then some (.agg ((cs.drop off).take n)) else none) else match cs[off]? with
    | some a => some (.at a)
    | none => none
  | _, _ => none

def bitsV (op : BinOp) (k : IntKind) (x y : Int) : Option Int :=
  match op with
  | .and => some (k.wrap (BitVec.ofInt k.bits x &&& BitVec.ofInt k.bits y).toNat)
  | .or => some (k.wrap (BitVec.ofInt k.bits x ||| BitVec.ofInt k.bits y).toNat)
  | .xor => some (k.wrap (BitVec.ofInt k.bits x ^^^ BitVec.ofInt k.bits y).toNat)
  | .andNot => some (k.wrap (BitVec.ofInt k.bits x &&& ~~~BitVec.ofInt k.bits y).toNat)
  | _ => none
def binI (op : BinOp) (k : IntKind) (x y : Int) : Option AT :=
  match op with
  | .add => some (.int k (wrapA k (x + y)))
  | .sub => some (.int k (wrapA k (x - y)))
  | .mul => some (.int k (wrapA k (x * y)))
  | .quo => if y = 0 then none else some (.int k (k.wrap (x.tdiv y)))
  | .rem => if y = 0 then none else some (.int k (x.tmod y))
  | .eql => some (.bool (x == y))
  | .neq => some (.bool (x != y))
  | .lss => some (.bool (decide (x < y)))
  | .leq => some (.bool (decide (x ≤ y)))
  | .gtr => some (.bool (decide (x > y)))
  | .geq => some (.bool (decide (x ≥ y)))
  | .and | .or | .xor | .andNot => match bitsV op k x y with
    | some n => some (.int k n)
    | none => none
  | _ => none
def shiftI (op : BinOp) (k : IntKind) (x y : Int) : Option AT :=
  if y < 0 then none else match op with
  | .shl => some (.int k (k.wrap (x * 2 ^ (min y.toNat k.bits))))
  | .shr => some (.int k (x.fdiv (2 ^ (min y.toNat k.bits))))
  | _ => none
def isShift : BinOp → Bool
  | .shl | .shr => true
  | _ => false
noncomputable def binS (op : BinOp) (x y : List UInt8) : Option AT :=
  match op with
  | .add => if x.length + y.length ≤ 4611686018427387904 then some (.str (x ++ y)) else none
  | .eql => some (.bool (eqS x y))
  | .neq => some (.bool !(eqS x y))
  | .lss => some (.bool (Op.bytesLess x y))
  | .leq => some (.bool (Op.bytesLess x y || eqS x y))
  | .gtr => some (.bool !(Op.bytesLess x y || eqS x y))
  | .geq => some (.bool !(Op.bytesLess x y))
  | _ => none
def isBoolD : Option TypeDesc → Bool
  | some .bool => true
  | _ => false
/-- Two cells of scalars, as '==' has it. -/
noncomputable def eqA : AT → AT → Option Bool
  | .int _ x, .int _ y => some (x == y)
  | .str x, .str y => some (eqS x y)
  | .bool x, .bool y => some (x == y)
  | _, _ => none
noncomputable def eqL : List AT → List AT → Option Bool
  | [], [] => some true
  | a :: l, b :: m => match eqA a b, eqL l m with
    | some x, some y => some (x && y)
    | _, _ => none
  | _, _ => none
inductive Sh where
  | int (k : IntKind)
  | str
  | bool
  | other
  deriving DecidableEq
def shp : AT → Sh
  | .int k _ => .int k
  | .str _ => .str
  | .bool _ => .bool
  | _ => .other
abbrev Eqs := List (TypeId × List Sh)
def shOf (t : TypeId) : Eqs → Option (List Sh)
  | [] => none
  | (u, s) :: r => bif Nat.beq u t then some s else shOf t r
/-- eqs: the struct types whose '==' goes cell by cell (shown for each program on its own). -/
noncomputable def binA (P : Program) (eqs : Eqs) (op : BinOp) (t : TypeId) : AV → AV → Option AT
  | .one (.at (.int k x)), .one (.at (.int k' y)) => bif isShift op then shiftI op k x y else if k = k' then binI op k x y else none
  | .one (.at (.str x)), .one (.at (.str y)) => binS op x y
  | .one (.at (.bool x)), .one (.at (.bool y)) => bif isBoolD (P.underlying t) then match op with
    | .eql => some (.bool (x == y))
    | .neq => some (.bool !(x == y))
    | _ => none else none
  | .one (.agg xs), .one (.agg ys) => match shOf t eqs with
    | some s => if xs.map shp = s ∧ ys.map shp = s then match op, eqL xs ys with
      | .eql, some b => some (.bool b)
      | .neq, some b => some (.bool !b)
      | _, _ => none else none
    | none => none
  | _, _ => none
def unA (op : UnOp) : AV → Option AT
  | .one (.at (.int k n)) => match op with
    | .neg => some (.int k (wrapA k (0 - n)))
    | .xor => match bitsV .xor k (if k.signed then -1 else k.max) n with
      | some m => some (.int k m)
      | none => none
    | _ => none
  | .one (.at (.bool b)) => match op with
    | .not => some (.bool !b)
    | _ => none
  | _ => none
/-- The bytes of a row. -/
def bytesA : List AT → Option (List UInt8)
  | [] => some []
  | .int .u8 n :: r => match bytesA r with
    | some l => some (UInt8.ofNat n.toNat :: l)
    | none => none
  | _ :: _ => none
noncomputable def rowA (H : Heap) (id o n : Nat) : Option (List AT) := match H.get id with
  | some (.cells _ _ cs) => bif Nat.ble (o + n) cs.length then some ((cs.drop o).take n) else none
  | _ => none
def isU8 : Option TypeDesc → Bool
  | some (.int .u8) => true
  | _ => false
noncomputable def convA (P : Program) (H : Heap) (src dst : TypeId) : AV → Option AT
  | .one (.at (.int _ n)) => match P.underlying src, P.underlying dst with
    | some (.int _), some (.int k) => some (.int k (wrapA k n))
    | _, _ => none
  | .one (.at (.slice (some (id, o)) n)) => match P.underlying src, P.underlying dst with
    | some (.slice e), some .string => bif isU8 (P.underlying e) then match rowA H id o n with
      | some cs => match bytesA cs with
        | some l => some (.str l)
        | none => none
      | none => none else none
    | _, _ => none
  | _ => none
def capsA : List AV → Option (List (Nat × Nat))
  | [] => some []
  | .one (.at (.ptr (some p))) :: r => match capsA r with
    | some l => some (p :: l)
    | none => none
  | _ :: _ => none
def intA : AV → Option Int
  | .one (.at (.int _ n)) => some n
  | _ => none
/-- A bound of a cut: none stands for d. -/
noncomputable def boundA (env : Nat → Option AV) (d : Nat) : Option Operand → Option Nat
  | none => some d
  | some x => match rho env x with
    | some v => match intA v with
      | some n => if 0 ≤ n then some n.toNat else none
      | none => none
    | none => none
noncomputable def keyA : AT → AT → Option Bool
  | .int k x, .int k' y => if k = k' then some (x == y) else none
  | .str x, .str y => some (eqS x y)
  | .bool x, .bool y => some (x == y)
  | _, _ => none
/-- The place of a key. -/
noncomputable def findA (k : AT) : List (AT × A1) → Nat → Option (Option (Nat × A1))
  | [], _ => some none
  | e :: r, i => match keyA k e.1 with
    | some true => some (some (i, e.2))
    | some false => findA k r (i + 1)
    | none => none
/-- Kinds of keys that are looked at as they stand. -/
def keyD : Option TypeDesc → AT → Bool
  | some (.int _), .int _ _ => true
  | some .string, .str _ => true
  | some .bool, .bool _ => true
  | _, _ => false
noncomputable def lookupA (P : Program) (H : Heap) (t : TypeId) (m : AV) (k : AV) (ok : Bool) : Option AV :=
  match P.underlying t, m, k with
  | some (.map kt et), .one (.at (.map (some id))), .one (.at key) => bif keyD (P.underlying kt) key then match H.get id with
    | some (.map es) => match findA key es 0 with
      | some (some (_, x)) => some (if ok then .tup [x, .at (.bool true)] else .one x)
      | some none => match zeroOf P et with
        | some z => some (if ok then .tup [z, .at (.bool false)] else .one z)
        | none => none
      | none => none
    | _ => none else none
  | _, _, _ => none
noncomputable def updateA (P : Program) (H : Heap) (t : TypeId) (m k v : AV) : Option Heap :=
  match P.underlying t, m, k, v with
  | some (.map kt _), .one (.at (.map (some id))), .one (.at key), .one x => bif keyD (P.underlying kt) key then match H.get id with
    | some (.map es) => match findA key es 0 with
      | some (some (i, _)) => some (H.set id (.map (es.set i (key, x))))
      | some none => some (H.set id (.map (es ++ [(key, x)])))
      | none => none
    | _ => none else none
  | _, _, _, _ => none
/-- append's second operand: a row, or nothing. -/
noncomputable def srcA (_ : Program) (H : Heap) (size : Nat) : AV → Option (Nat × List AT)
  | .one (.at (.slice none _)) => some (0, [])
  | .one (.at (.slice (some (id, o)) n)) => match rowA H id o (n * size) with
    | some cs => some (n, cs)
    | none => none
  | _ => none
def isSliceD : Option TypeDesc → Option TypeId
  | some (.slice e) => some e
  | _ => none
noncomputable def appendA (P : Program) (H : Heap) (t t2 : TypeId) (s x : AV) : Option (AV × Heap) :=
  match isSliceD (P.underlying t), isSliceD (P.underlying t2) with
  | some e, some _ => bif !Nat.beq t t2 then none else match P.info? e with
    | some i => bif Nat.beq i.size 0 then none else match i.zero with
      | some z => bif Nat.beq z.cells.size i.size then match srcA P H i.size x with
        | some (m, new) => match s with
          | .one (.at (.slice none _)) => bif Nat.beq m 0 then some (s, H) else
            bif Nat.ble (m * i.bytes) 140737488355328 && Nat.ble m 9223372036854775807 then some (at' (.slice (some (H.n, 0)) m), H.push (.cells e 2 new)) else none
          | .one (.at (.slice (some (id, o)) n)) => bif Nat.beq m 0 then some (s, H) else match H.get id with
            | some (.cells T k cs) => bif Nat.beq T e && Nat.beq k 2 && Nat.beq o 0 && Nat.beq cs.length (n * i.size) && Nat.ble ((n + m) * i.bytes) 140737488355328 && Nat.ble (n + m) 9223372036854775807 then
              some (at' (.slice (some (H.n, 0)) (n + m)), (H.set id .dead).push (.cells e 2 (cs ++ new))) else none
            | _ => none
          | _ => none
        | none => none else none
      | none => none
    | none => none
  | _, _ => none
noncomputable def lenA (P : Program) (H : Heap) (t : TypeId) : AV → Option Nat
  | .one (.at (.str s)) => match P.underlying t with
    | some .string => some s.length
    | _ => none
  | .one (.at (.slice _ n)) => match P.underlying t with
    | some (.slice _) => some n
    | _ => none
  | .one (.at (.map (some id))) => match P.underlying t, H.get id with
    | some (.map _ _), some (.map es) => some es.length
    | _, _ => none
  | _ => none
def foldI (f : Int → Int → Int) : List AV → Option AT
  | [.one (.at (.int k a)), .one (.at (.int k' b))] => if k = k' then some (.int k (f a b)) else none
  | [.one (.at (.int k a)), .one (.at (.int k' b)), .one (.at (.int k'' c))] => if k = k' ∧ k' = k'' then some (.int k (f (f a b) c)) else none
  | _ => none
noncomputable def builtinA (P : Program) (H : Heap) (b : Builtin) (ts : List TypeId) (vs : List AV) : Option (AV × Heap) :=
  match b, ts, vs with
  | .len, t :: _, v :: _ => match lenA P H t v with
    | some n => some (at' (.int .i64 n), H)
    | none => none
  | .append, [t, t2], [s, x] => appendA P H t t2 s x
  | .max, _, vs => match foldI (fun x y => if y > x then y else x) vs with
    | some a => some (at' a, H)
    | none => none
  | .min, _, vs => match foldI (fun x y => if y < x then y else x) vs with
    | some a => some (at' a, H)
    | none => none
  | _, _, _ => none

def fieldO (P : Program) (s : TypeId) (f : Nat) : Option (TypeId × Nat) := match P.underlying s with
  | some (.struct fields) => match fields[f]? with
    | some x => some (x.type, x.offset)
    | none => none
  | _ => none

set_option linter.unusedVariables false
noncomputable def op_move (x : Operand) (P : Program) (eqs : Eqs) (env : Nat → Option AV) (H : Heap) : Option OpR :=
  match rho env x with
    | some v => some (.val v H)
    | none => none
noncomputable def op_pick (c a b : Operand) (P : Program) (eqs : Eqs) (env : Nat → Option AV) (H : Heap) : Option OpR :=
  match rho env c with
    | some (.one (.at (.bool t))) => match rho env (bif t then a else b) with
      | some v => some (.val v H)
      | none => none
    | _ => none
noncomputable def op_alloc (T : TypeId) (P : Program) (eqs : Eqs) (env : Nat → Option AV) (H : Heap) : Option OpR :=
  match zeroOf P T with
    | some x => some (.val (at' (.ptr (some (H.n, 0)))) (H.push (.cells T 1 x.cells)))
    | none => none
noncomputable def op_box (T : TypeId) (x : Operand) (P : Program) (eqs : Eqs) (env : Nat → Option AV) (H : Heap) : Option OpR :=
  match rho env x with
    | some (.one a) => some (.val (at' (.ptr (some (H.n, 0)))) (H.push (.cells T 1 a.cells)))
    | _ => none
noncomputable def placesA (P : Program) (l : List Field) : Option (List (Nat × Nat)) :=
  List.rec (some []) (fun f _ ih => match sizeO P f.type, ih with
    | some n, some r => some ((f.offset, n) :: r)
    | _, _ => none) l
noncomputable def op_build (T : TypeId) (parts : Array (Nat × Operand)) (P : Program) (eqs : Eqs) (env : Nat → Option AV) (H : Heap) : Option OpR :=
  match zeroOf P T, P.underlying T, partsOf env parts.toList with
    | some (.agg z), some (.struct fields), some ps => match placesA P fields.toList with
      | some pl => match fillA (fun i => pl[i]?) z ps with
        | some cs => some (.val (.one (.agg cs)) H)
        | none => none
      | none => none
    | some (.agg z), some (.array _ e), some ps => match sizeO P e with
      | some n => match fillA (fun i => some (i * n, n)) z ps with
        | some cs => some (.val (.one (.agg cs)) H)
        | none => none
      | none => none
    | _, _, _ => none
noncomputable def op_buildSlice (T : TypeId) (len : Nat) (parts : Array (Nat × Operand)) (P : Program) (eqs : Eqs) (env : Nat → Option AV) (H : Heap) : Option OpR :=
  match isSliceD (P.underlying T), partsOf env parts.toList with
    | some e, some ps => match sizeO P e, zeroOf P e with
      | some n, some z => bif Nat.ble (len * n) 16777216 && Nat.ble 1 n && Nat.beq z.cells.length n && Nat.ble len 9223372036854775807 then
          match fillA (fun i => some (i * n, n)) ((List.range (len * n)).map fun i => (z.cells[i % z.cells.length]?).getD .nilIf) ps with
        | some cs => some (.val (at' (.slice (some (H.n, 0)) len)) (H.push (.cells e 2 cs)))
        | none => none else none
      | _, _ => none
    | _, _ => none
noncomputable def op_load (T : TypeId) (a : Operand) (P : Program) (eqs : Eqs) (env : Nat → Option AV) (H : Heap) : Option OpR :=
  match rho env a with
    | some (.one (.at (.ptr (some (id, o))))) => match H.get id with
      | some (.cells _ _ cs) => match partA P T cs o with
        | some x => some (.val (.one x) H)
        | none => none
      | _ => none
    | _ => none
noncomputable def op_store (T : TypeId) (a x : Operand) (P : Program) (eqs : Eqs) (env : Nat → Option AV) (H : Heap) : Option OpR :=
  match rho env a, rho env x, sizeO P T with
    | some (.one (.at (.ptr (some (id, o))))), some (.one x), some n => match H.get id with
      | some (.cells T' k cs) => bif Nat.beq x.cells.length n && Nat.ble (o + n) cs.length && !Nat.beq k 0 then
          some (.val .undef (H.set id (.cells T' k (putL cs o x.cells)))) else none
      | _ => none
    | _, _, _ => none
noncomputable def op_nilCheck (x : Operand) (P : Program) (eqs : Eqs) (env : Nat → Option AV) (H : Heap) : Option OpR :=
  match rho env x with
    | some (.one (.at (.ptr (some p)))) => some (.val (at' (.ptr (some p))) H)
    | some (.one (.at (.fn f cs))) => some (.val (at' (.fn f cs)) H)
    | _ => none
noncomputable def op_binOp (op : BinOp) (t : TypeId) (x y : Operand) (_ : TypeId) (P : Program) (eqs : Eqs) (env : Nat → Option AV) (H : Heap) : Option OpR :=
  match rho env x, rho env y with
    | some u, some v => match binA P eqs op t u v with
      | some a => some (.val (at' a) H)
      | none => none
    | _, _ => none
noncomputable def op_unOp (op : UnOp) (_ : TypeId) (x : Operand) (P : Program) (eqs : Eqs) (env : Nat → Option AV) (H : Heap) : Option OpR :=
  match rho env x with
    | some v => match unA op v with
      | some a => some (.val (at' a) H)
      | none => none
    | none => none
noncomputable def op_convert (s d : TypeId) (x : Operand) (P : Program) (eqs : Eqs) (env : Nat → Option AV) (H : Heap) : Option OpR :=
  match rho env x with
    | some v => match convA P H s d v with
      | some a => some (.val (at' a) H)
      | none => none
    | none => none
noncomputable def op_makeFunc (fn : Fn) (first caps : Array Operand) (P : Program) (eqs : Eqs) (env : Nat → Option AV) (H : Heap) : Option OpR :=
  match fn, first.toList, rhos env caps.toList with
    | .func f, [], some vs => match capsA vs with
      | some cs => some (.val (at' (.fn f cs)) H)
      | none => none
    | _, _, _ => none
noncomputable def op_makeMap (_ : TypeId) (r : Option Operand) (P : Program) (eqs : Eqs) (env : Nat → Option AV) (H : Heap) : Option OpR :=
  match r with
    | none => some (.val (at' (.map (some H.n))) (H.push (.map [])))
    | some _ => none
noncomputable def op_makeSlice (t : TypeId) (l c : Operand) (P : Program) (eqs : Eqs) (env : Nat → Option AV) (H : Heap) : Option OpR :=
  match isSliceD (P.underlying t), rho env l, rho env c with
    | some e, some l, some c => match P.info? e, zeroOf P e, intA l, intA c with
      | some i, some z, some n, some n' => if n = n' ∧ 0 ≤ n ∧ n * i.bytes ≤ 140737488355328 ∧ n ≤ 9223372036854775807 ∧ 0 < i.size ∧ z.cells.length = i.size then
          some (.val (at' (.slice (some (H.n, 0)) n.toNat)) (H.push (.cells e 2 ((List.range (n.toNat * i.size)).map fun j => (z.cells[j % z.cells.length]?).getD .nilIf)))) else none
      | _, _, _, _ => none
    | _, _, _ => none
noncomputable def op_slice (t : TypeId) (x : Operand) (lo hi mx : Option Operand) (P : Program) (eqs : Eqs) (env : Nat → Option AV) (H : Heap) : Option OpR :=
  match mx, rho env x with
    | none, some (.one (.at (.str s))) => match P.underlying t, boundA env 0 lo, boundA env s.length hi with
      | some .string, some l, some h => bif Nat.ble l h && Nat.ble h s.length then some (.val (at' (.str ((s.take h).drop l))) H) else none
      | _, _, _ => none
    | none, some (.one (.at (.slice (some (id, o)) n))) => match isSliceD (P.underlying t), boundA env 0 lo, boundA env n hi with
      | some e, some l, some h => match sizeO P e with
        | some z => bif Nat.ble l h && Nat.ble h n && !Nat.beq z 0 then some (.val (at' (.slice (some (id, o + l * z)) (h - l))) H) else none
        | none => none
      | _, _, _ => none
    | _, _ => none
noncomputable def op_fieldAddr (s : TypeId) (x : Operand) (f : Nat) (P : Program) (eqs : Eqs) (env : Nat → Option AV) (H : Heap) : Option OpR :=
  match fieldO P s f, rho env x with
    | some (ft, off), some (.one (.at (.ptr (some (id, o))))) => match sizeO P ft with
      | some z => bif Nat.beq z 0 then none else some (.val (at' (.ptr (some (id, o + off)))) H)
      | none => none
    | _, _ => none
noncomputable def op_field (T : TypeId) (x : Operand) (f : Nat) (P : Program) (eqs : Eqs) (env : Nat → Option AV) (H : Heap) : Option OpR :=
  match fieldO P T f, rho env x with
    | some (ft, off), some (.one (.agg cs)) => match partA P ft cs off with
      | some y => some (.val (.one y) H)
      | none => none
    | _, _ => none
noncomputable def op_indexAddr (t : TypeId) (x ix : Operand) (P : Program) (eqs : Eqs) (env : Nat → Option AV) (H : Heap) : Option OpR :=
  match rho env x, rho env ix with
    | some (.one (.at (.slice (some (id, o)) n))), some v => match isSliceD (P.underlying t), intA v with
      | some e, some i => match sizeO P e with
        | some z => bif inR i n then some (.val (at' (.ptr (some (id, o + i.toNat * z)))) H) else none
        | none => none
      | _, _ => none
    | _, _ => none
noncomputable def op_index (t : TypeId) (x ix : Operand) (P : Program) (eqs : Eqs) (env : Nat → Option AV) (H : Heap) : Option OpR :=
  match rho env x, rho env ix with
    | some (.one (.at (.str s))), some v => match P.underlying t, intA v with
      | some .string, some i => bif inR i s.length then match s[i.toNat]? with
        | some b => some (.val (at' (.int .u8 b.toNat)) H)
        | none => none else none
      | _, _ => none
    | some (.one (.agg cs)), some v => match P.underlying t, intA v with
      | some (.array len e), some i => match sizeO P e with
        | some z => bif inR i len then match partA P e cs (i.toNat * z) with
          | some y => some (.val (.one y) H)
          | none => none else none
        | none => none
      | _, _ => none
    | _, _ => none
noncomputable def op_lookup (t : TypeId) (x ix : Operand) (ok : Bool) (P : Program) (eqs : Eqs) (env : Nat → Option AV) (H : Heap) : Option OpR :=
  match rho env x, rho env ix with
    | some m, some k => match lookupA P H t m k ok with
      | some v => some (.val v H)
      | none => none
    | _, _ => none
noncomputable def op_mapUpdate (t : TypeId) (m k x : Operand) (P : Program) (eqs : Eqs) (env : Nat → Option AV) (H : Heap) : Option OpR :=
  match rho env m, rho env k, rho env x with
    | some m, some k, some x => match updateA P H t m k x with
      | some H' => some (.val .undef H')
      | none => none
    | _, _, _ => none
noncomputable def op_extract (t : Operand) (i : Nat) (P : Program) (eqs : Eqs) (env : Nat → Option AV) (H : Heap) : Option OpR :=
  match rho env t with
    | some (.tup xs) => match xs[i]? with
      | some x => some (.val (.one x) H)
      | none => none
    | _ => none
noncomputable def op_call (c : Call) (P : Program) (eqs : Eqs) (env : Nat → Option AV) (H : Heap) : Option OpR :=
  match c.callee with
    | .builtin b => match rhos env c.args.toList with
      | some vs => match builtinA P H b c.argTypes.toList vs with
        | some (v, H') => some (.val v H')
        | none => none
      | none => none
    | .value f => match rho env f, rhos env c.args.toList with
      | some (.one (.at (.fn g cs))), some vs => some (.call g (vs ++ cs.map fun p => at' (.ptr (some p))))
      | _, _ => none
    | .invoke _ _ => none
noncomputable def op_none1 (_ : Nat) (_ : Program) (_ : Eqs) (_ : Nat → Option AV) (_ : Heap) : Option OpR := none
noncomputable def op_none1' (_ : Nat) (_ : Program) (_ : Eqs) (_ : Nat → Option AV) (_ : Heap) : Option OpR := none
noncomputable def op_none2 (_ : TypeId) (_ : Operand) (_ : Program) (_ : Eqs) (_ : Nat → Option AV) (_ : Heap) : Option OpR := none
noncomputable def op_none3 (_ : TypeId) (_ _ : Operand) (_ : Program) (_ : Eqs) (_ : Nat → Option AV) (_ : Heap) : Option OpR := none
noncomputable def op_none4 (_ : TypeId) (_ _ _ : Operand) (_ : Program) (_ : Eqs) (_ : Nat → Option AV) (_ : Heap) : Option OpR := none
noncomputable def op_none5 (_ : Operand) (_ : Bool) (_ : Program) (_ : Eqs) (_ : Nat → Option AV) (_ : Heap) : Option OpR := none
noncomputable def op_none6 (_ : Operand) (_ : Program) (_ : Eqs) (_ : Nat → Option AV) (_ : Heap) : Option OpR := none
noncomputable def op_none7 (_ : Operand) (_ _ : TypeId) (_ : Bool) (_ : Program) (_ : Eqs) (_ : Nat → Option AV) (_ : Heap) : Option OpR := none
noncomputable def op_none8 (_ : Call) (_ : Program) (_ : Eqs) (_ : Nat → Option AV) (_ : Heap) : Option OpR := none
noncomputable def op_none9 (_ _ : Operand) (_ : Program) (_ : Eqs) (_ : Nat → Option AV) (_ : Heap) : Option OpR := none
noncomputable def op_none10 (_ : TypeId) (_ : Operand) (_ : Bool) (_ : Program) (_ : Eqs) (_ : Nat → Option AV) (_ : Heap) : Option OpR := none
noncomputable def op_none11 (_ : Array SelectCase) (_ : Bool) (_ : Program) (_ : Eqs) (_ : Nat → Option AV) (_ : Heap) : Option OpR := none
noncomputable def opA (op : Op) : Program → Eqs → (Nat → Option AV) → Heap → Option OpR :=
  Op.rec (motive := fun _ => Program → Eqs → (Nat → Option AV) → Heap → Option OpR)
    op_move op_move op_pick op_alloc op_box op_build op_buildSlice op_mapUpdate op_load op_store op_none1 op_none1' op_nilCheck op_binOp op_unOp op_convert op_none2
    op_none2 op_makeFunc op_makeMap op_none2 op_makeSlice op_slice op_fieldAddr op_field op_indexAddr op_index op_lookup op_mapUpdate op_none3 op_none4 op_none2
    op_none5 op_none6 op_none7 op_extract op_call op_none8 op_none8 op_none6 op_none9 op_none10 op_none11 op
end Go.Ea
