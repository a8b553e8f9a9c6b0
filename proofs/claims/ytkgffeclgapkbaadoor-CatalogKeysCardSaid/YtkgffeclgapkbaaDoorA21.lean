/- CatalogKeys: a great order; the texts too long. -/
import Derived.Test.YtkgffeclgapkbaaDoorA20
import Derived.Test.YtkgffeclgapkbaaDoorWMore
namespace Go.Proofs.YtkgffeclgapkbaaDoor
open Go.RowKit Go.Proofs.YtkgffeclgapkbaaDoorW.PrintWords Go.Proofs.YtkgffeclgapkbaaDoorW.PrintMore
attribute [local go_sem] min2_int min_two
set_option linter.unusedVariables false
set_option linter.unusedSimpArgs false
set_option maxRecDepth 100000
set_option maxHeartbeats 4000000 in
theorem Keys_skip (s : ByteArray) (x y i : Int) (A : Option Addr) (c n : Nat) (w : World) (hg : Gl w) (h : 100 < s.size ∨ 200 < n) :
    Calls Tryd.prog 4 #[.string s, .int .u32 x, .int .i64 i, .slice A n c, .int .u64 y] w fun r w' => r = .returned (.bool true) ∧ Fr No w w' := by
  have hAw := awake_any w hg
  clear hg
  by_cases h1 : 100 < s.size
  · have d1 : decide ((100 : Int) < (s.size : Int)) = true := decide_eq_true (by omega)
    have d2 : decide (100 < s.size) = true := decide_eq_true (by omega)
    clear h
    go_enter Tryd.func4, Tryd.ntmps4
    go_wp2_with fail
    refine hAw.mono ?_
    clear hAw
    rintro r w1 ⟨rfl, hf1⟩
    have HF1 := hide hf1
    clear hf1
    go_wp2_with fail
    go_ret
    exact ⟨rfl, HF1.out⟩
  · have h2 : 200 < n := by omega
    have d1 : decide ((100 : Int) < (s.size : Int)) = false := decide_eq_false (by omega)
    have d2 : decide (100 < s.size) = false := decide_eq_false (by omega)
    have d3 : decide ((200 : Int) < (n : Int)) = true := decide_eq_true (by omega)
    have d4 : decide (200 < n) = true := decide_eq_true (by omega)
    clear h
    go_enter Tryd.func4, Tryd.ntmps4
    go_wp2_with fail
    refine hAw.mono ?_
    clear hAw
    rintro r w1 ⟨rfl, hf1⟩
    have HF1 := hide hf1
    clear hf1
    go_wp2_with fail
    go_ret
    exact ⟨rfl, HF1.out⟩
end Go.Proofs.YtkgffeclgapkbaaDoor
