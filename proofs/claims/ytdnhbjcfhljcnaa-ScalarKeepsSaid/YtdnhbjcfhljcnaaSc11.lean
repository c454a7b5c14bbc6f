/- What the functions on floating-point numbers of package scalar return: a number is its 64 bits. Conditions: the section takes at most 2^20 bytes. -/
import Derived.Test.YtdnhbjcfhljcnaaSc10
import Derived.Laws.Externs
set_option linter.unusedVariables false
set_option linter.unusedSimpArgs false
namespace Go.Proofs.Ytdnhbjcfhljcnaa
open Go.RowKit

theorem run_bits (b : Nat) (w : World) : (callFunc 20 #[.float .f64 b]).run Try.prog w = .ok (.value (.int .u64 b)) w := by
  have h := run_callFunc_extern (P := Try.prog) (f := 20) (fn := Try.f20) (e := Extern.MathFloatBits.float64bits) (by kernel_rfl) (by kernel_rfl) (by kernel_rfl) (by kernel_rfl) (by kernel_rfl) #[.float .f64 b] w
  rw [h]; rfl
theorem run_from (n : Int) (w : World) : (callFunc 18 #[.int .u64 n]).run Try.prog w = .ok (.value (.float .f64 n.toNat)) w := by
  have h := run_callFunc_extern (P := Try.prog) (f := 18) (fn := Try.f18) (e := Extern.MathFloatBits.float64frombits) (by kernel_rfl) (by kernel_rfl) (by kernel_rfl) (by kernel_rfl) (by kernel_rfl) #[.int .u64 n] w
  rw [h]; rfl

theorem samebits_any (a b : Nat) (w : World) : Calls Try.prog 22 #[.float .f64 a, .float .f64 b] w fun e w' => e = .returned (.bool (decide (a = b))) ∧ w = w' := by
  have hb1 := run_bits
  by_cases h : a = b
  · subst h
    go_enter Try.func22, Try.ntmps22
    go_wp2
    go_ret
    exact ⟨by simp, rfl⟩
  · have h1 : ((a : Int) == (b : Int)) = false := by simp; omega
    go_enter Try.func22, Try.ntmps22
    go_wp2
    go_ret
    exact ⟨by simp [h], rfl⟩
theorem float_any (i : Int) (A : Option Addr) (len cap : Nat) (xs : List Int) (d : Nat) (hd : d < 18446744073709551616) (hl : len ≤ 1048576) (w : World) (hR : Rd w A len xs) (z : Nat) (hz : uV xs 64 i d = z) :
    Calls Try.prog 21 #[.slice A len cap, .int .i64 i, .float .f64 d] w fun e w' => e = .returned (.float .f64 z) ∧ Below w.heap.size w w' := by
  have hb1 := run_bits
  have hb2 := run_from
  have HR := Lib.hid hR
  have HZ := Lib.hid hz
  clear hR hz
  go_enter Try.func21, Try.ntmps21
  go_wp2_with fail
  refine (uint_is 64 (by simp [Wd]) i A len cap xs d hd hl _ HR.out z HZ.out).mono ?_
  rintro e' w1 ⟨rfl, hb⟩
  go_wp2
  go_ret
  exact ⟨by simp, hb⟩
theorem setfloat_absent (i : Int) (A : Option Addr) (len cap : Nat) (d v : Nat) (hl : len ≤ 1048576) (hp : Pr len 64 i = false) (w : World) :
    Calls Try.prog 19 #[.slice A len cap, .int .i64 i, .float .f64 d, .float .f64 v] w fun e w' => e = .returned (.tuple #[.slice A len cap, .bool false]) ∧ w = w' := by
  have hb1 := run_bits
  have HP := Lib.hid hp
  clear hp
  go_enter Try.func19, Try.ntmps19
  go_wp2_with fail
  refine (set_absent 64 (by simp [Wd]) i A len cap d v hl HP.out _).mono ?_
  rintro e' w1 ⟨rfl, rfl⟩
  go_wp2
  refine bodyPost_ret (v := .tuple #[.slice A len cap, .bool false]) (by simp [results, Try.results19, go_sem]) rfl ⟨rfl, rfl⟩
theorem setfloat_any (i : Int) (A : Option Addr) (len cap : Nat) (xs : List Int) (d v : Nat) (hd : d < 18446744073709551616) (hv : v < 18446744073709551616) (hl : len ≤ 1048576) (hp : Pr len 64 i = true) (w : World) (hR : Rd w A len xs) (hA : A = none → len = 0) :
    Calls Try.prog 19 #[.slice A len cap, .int .i64 i, .float .f64 d, .float .f64 v] w fun e w' => (∃ r, e = .returned (.tuple #[r, .bool true]) ∧ w'.ownsRow w.heap.size 5 1 r len (nums .u8 (sL xs 64 i.toNat (v ^^^ d)))) ∧ Below w.heap.size w w' := by
  have hb1 := run_bits
  have HP := Lib.hid hp
  have HR := Lib.hid hR
  clear hp hR
  go_enter Try.func19, Try.ntmps19
  go_wp2_with fail
  refine (set_any 64 (by simp [Wd]) i A len cap xs d v hd hv hl HP.out _ HR.out hA).mono ?_
  rintro e' w1 ⟨⟨r, rfl, hown⟩, hb⟩
  go_wp2
  refine bodyPost_ret (v := .tuple #[r, .bool true]) (by simp [results, Try.results19, go_sem]) rfl ⟨⟨_, rfl, hown⟩, hb⟩
theorem copysign_01 (w : World) : Calls Try.prog 23 #[.float .f64 0, .float .f64 13830554455654793216] w fun e w' => e = .returned (.float .f64 9223372036854775808) ∧ w = w' := by
  have hb1 := run_bits
  have hb2 := run_from
  go_enter Try.func23, Try.ntmps23
  go_wp2
  go_ret
  refine ⟨?_, rfl⟩
  first
    | rfl
    | decide
    | (simp; done)
end Go.Proofs.Ytdnhbjcfhljcnaa
