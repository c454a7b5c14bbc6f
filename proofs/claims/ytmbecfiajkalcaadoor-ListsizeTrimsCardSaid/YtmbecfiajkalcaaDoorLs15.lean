/- ListsizeTrims' walk, put together. Conditions: each number is of its kind; the slice lies in memory as the form reads it; the table lies as the program's text lays it. -/
import Derived.Test.YtmbecfiajkalcaaDoorLs14
set_option linter.unusedVariables false
set_option linter.unusedSimpArgs false
namespace Go.Proofs.YtmbecfiajkalcaaDoor
open Go.RowKit

theorem trims_walk (e c : Int) (A : Option Addr) (n cap : Nat) (x : Int) (xs : List Int) (w : World) (hA : A = none → n = 0 ∧ cap = 0) (hcap : n ≤ cap) (hR : Rd w A n xs) (hx0 : 0 ≤ x) (hx1 : x ≤ 255) (ht : Tab w) :
    Calls Tryd.prog 6 #[.int .i64 e, .int .i64 c, .slice A n cap, .int .u8 x] w fun e' w' => e' = .returned (.bool true) ∧ Below w.heap.size w w' := by
  by_cases h0 : e < 0
  · exact trims_out0 e c A n cap x h0 w ht
  by_cases h1 : 5 < e
  · exact trims_out1 e c A n cap x (by omega) h1 w ht
  by_cases h2 : c < 0
  · exact trims_out2 e c A n cap x (by omega) (by omega) h2 w ht
  by_cases h3 : 4000 < c
  · exact trims_out3 e c A n cap x (by omega) (by omega) (by omega) h3 w ht
  by_cases h4 : 2000 < n
  · exact trims_out4 e c A n cap x (by omega) (by omega) (by omega) (by omega) h4 w ht
  obtain ⟨k, hk⟩ := Int.eq_ofNat_of_zero_le (bytesOf_nonneg e c (by omega) (by omega) (by omega))
  by_cases h5 : n < k
  · exact trims_out5 e c A n cap x (by omega) (by omega) (by omega) (by omega) (by omega) k hk h5 w ht
  · exact trims_in e c A n cap x (by omega) (by omega) (by omega) (by omega) (by omega) k hk (by omega) hcap xs w hA hR hx0 hx1 ht
end Go.Proofs.YtmbecfiajkalcaaDoor
