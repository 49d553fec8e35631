/-
  The text that the examples of chapter 6 read, scanned and parsed by the reference: known calls for the engine. Written by a program of this session; checked here.
-/
import Derived.Test.YtnhobbjbgljpnaaGa
namespace Go.Proofs.Ytnhobbjbgljpnaa
open Go.Ea
set_option maxRecDepth 100000
/-- 55838 steps -/
def eParse : Ent := ⟨12, [.one (.at (.str [97, 114, 114, 97, 121, 32, 97, 32, 50, 59, 32, 102, 117, 110, 99, 32, 102, 40, 41, 32, 123, 32, 119, 104, 105, 108, 101, 32, 40, 49, 41, 32, 123, 32, 111, 117, 116, 32, 55, 59, 32, 125, 32, 114, 101, 116, 117, 114, 110, 32, 48, 59, 32, 125, 32, 102, 117, 110, 99, 32, 103, 40, 110, 41, 32, 123, 32, 97, 91, 110, 93, 32, 61, 32, 53, 59, 32, 114, 101, 116, 117, 114, 110, 32, 97, 91, 110, 93, 32, 47, 32, 40, 110, 32, 45, 32, 49, 41, 59, 32, 125, 32, 102, 117, 110, 99, 32, 104, 40, 110, 41, 32, 123, 32, 110, 32, 61, 32, 103, 40, 110, 41, 59, 32, 111, 117, 116, 32, 110, 59, 32, 114, 101, 116, 117, 114, 110, 32, 110, 32, 43, 32, 49, 59, 32, 125]))], 0,
    [],
    .tup [.agg [.slice (some (1158, 0)) 1, .slice (some (1873, 0)) 3], .agg [.int .i64 0, .int .i64 0]], 1875,
    [(1158, .cells 70 2 [.str [97], .int .i64 2]),
    (1280, .cells 58 2 [.int .i64 5, .str [], .str [], .int .i64 0, .int .i64 0, .int .i64 0, .str [], .int .i64 0, .slice none 0, .int .i64 1, .int .i64 7, .str [], .int .i64 0, .slice none 0, .slice none 0, .slice none 0, .slice none 0]),
    (1283, .cells 58 2 [.int .i64 4, .str [], .str [], .int .i64 0, .int .i64 0, .int .i64 0, .str [], .int .i64 0, .slice none 0, .int .i64 1, .int .i64 1, .str [], .int .i64 0, .slice none 0, .slice none 0, .slice (some (1280, 0)) 1, .slice none 0]),
    (1349, .cells 9 2 [.str [110]]),
    (1464, .cells 58 2 [.int .i64 2, .str [97], .str [], .int .i64 0, .int .i64 2, .int .i64 0, .str [110], .int .i64 0, .slice none 0, .int .i64 1, .int .i64 5, .str [], .int .i64 0, .slice none 0, .slice none 0, .slice none 0, .slice none 0]),
    (1539, .cells 54 2 [.int .i64 2, .int .i64 0, .str [110], .int .i64 0, .slice none 0]),
    (1595, .cells 54 2 [.int .i64 2, .int .i64 0, .str [110], .int .i64 0, .slice none 0, .int .i64 1, .int .i64 1, .str [], .int .i64 0, .slice none 0]),
    (1621, .cells 54 2 [.int .i64 3, .int .i64 0, .str [97], .int .i64 0, .slice (some (1539, 0)) 1, .int .i64 4, .int .i64 0, .str [], .int .i64 5, .slice (some (1595, 0)) 2]),
    (1665, .cells 9 2 [.str [110]]),
    (1741, .cells 54 2 [.int .i64 2, .int .i64 0, .str [110], .int .i64 0, .slice none 0]),
    (1802, .cells 58 2 [.int .i64 6, .str [110], .str [103], .int .i64 0, .int .i64 0, .int .i64 0, .str [], .int .i64 0, .slice none 0, .int .i64 0, .int .i64 0, .str [], .int .i64 0, .slice none 0, .slice (some (1741, 0)) 1, .slice none 0, .slice none 0, .int .i64 5, .str [], .str [], .int .i64 0, .int .i64 0, .int .i64 0, .str [], .int .i64 0, .slice none 0, .int .i64 2, .int .i64 0, .str [110], .int .i64 0, .slice none 0, .slice none 0, .slice none 0, .slice none 0]),
    (1848, .cells 54 2 [.int .i64 2, .int .i64 0, .str [110], .int .i64 0, .slice none 0, .int .i64 1, .int .i64 1, .str [], .int .i64 0, .slice none 0]),
    (1873, .cells 56 2 [.str [102], .slice none 0, .slice none 0, .slice (some (1283, 0)) 1, .int .i64 1, .int .i64 0, .str [], .int .i64 0, .slice none 0, .str [103], .slice (some (1349, 0)) 1, .slice none 0, .slice (some (1464, 0)) 1, .int .i64 4, .int .i64 0, .str [], .int .i64 7, .slice (some (1621, 0)) 2, .str [104], .slice (some (1665, 0)) 1, .slice none 0, .slice (some (1802, 0)) 2, .int .i64 4, .int .i64 0, .str [], .int .i64 4, .slice (some (1848, 0)) 2])]⟩
theorem eParse_ok : EntOk Try.prog eParse := entOk_of (K := Go.Ea.runT Try.prog eqs (plsOf tab out) (tbE [eScan]) 200) (Go.Ea.runT_sound mixed eqsOk fnsOk' (tbE_ok (by
  intro e he
  simp only [List.mem_cons, List.not_mem_nil, or_false] at he
  subst he; exact eScan_ok)) 200) (by decide +kernel) (by decide +kernel)
end Go.Proofs.Ytnhobbjbgljpnaa
