/-
  SizingCheck: which configurations are valid, and the error of others; the walk. No conditions beyond those of the statement.
-/
import Derived.Test.YtgjlibecgkhocaaWc
import Derived.Test.YtgjlibecgkhocaaGg
import Derived.Test.YtgjlibecgkhocaaMC
set_option linter.unusedVariables false
set_option linter.unusedSimpArgs false
namespace Go.Proofs.Ytgjlibecgkhocaa
open Go.RowKit Cfp
theorem four_all : szc.FourAll := fun c l C n k T q j B w hw hp hs hr hB hn =>
  ⟨fun W kW => scheck_any c C T n k q j W l hw hp hs B (hr.kept kW (fun _ _ h => h)) (Nat.le_trans hB kW.size) hn,
   fun W kW => rconfig_any c C T n k q j W l hw hp hs B (hr.kept kW (fun _ _ h => h)) (Nat.le_trans hB kW.size) hn,
   fun W kW => svalidate_any c C T n k q j W l hw hp hs B (hr.kept kW (fun _ _ h => h)) (Nat.le_trans hB kW.size) hn,
   fun W kW => rvalidate_any c C T n k q j W l hw hp hs B (hr.kept kW (fun _ _ h => h)) (Nat.le_trans hB kW.size) hn⟩
namespace sizingCheck
theorem walk (w : World) (c0 : Cfg) (l0 : List (Int × Int)) (C0 : Option Addr) (n0 k0 : Nat) (T0 : Option Addr) (q0 j0 : Nat) (hp0 : 0 ≤ c0.promote ∧ c0.promote < 18446744073709551616) (hs0 : 0 ≤ c0.seed ∧ c0.seed < 18446744073709551616) (hw0 : Wide l0) (hr0 : Rd w w.heap.size C0 2 n0 (prs l0))
    (A1 : Option Addr) (n1 c1 : Nat) (z1 : List Int) (r1 : Rd w w.heap.size A1 1 n1 (z1.map (.int .i64))) (b1 : ∀ z ∈ z1, -9223372036854775808 ≤ z ∧ z < 9223372036854775808) (s1 : n1 * 8 ≤ 140737488351232) (l1 : n1 ≤ c1)
    (at_ : Int) (at0 : -9223372036854775808 ≤ at_) (at1 : at_ < 9223372036854775808) (nn : Int) (nn0 : -9223372036854775808 ≤ nn) (nn1 : nn < 9223372036854775808) (again : Int) (ag0 : -9223372036854775808 ≤ again) (ag1 : again < 9223372036854775808) (m : Int) (m0 : -9223372036854775808 ≤ m) (m1 : m < 9223372036854775808) :
    Calls Try.prog 6 #[Value.agg #[.int .i64 c0.length, .int .i64 c0.lateness, .int .i64 c0.windows, .int .i64 c0.shards, .int .i64 c0.spread, .int .i64 c0.queue, .int .i64 c0.mode, .int .i64 c0.slots, .int .i64 c0.exact_, .int .u64 c0.promote, .int .i64 c0.depth, .int .i64 c0.width, .int .i64 c0.top, .int .i64 c0.key, .slice C0 n0 k0, .slice T0 q0 j0, .int .u64 c0.seed], .slice A1 n1 c1, .int .i64 at_, .int .i64 nn, .int .i64 again, .int .i64 m] w fun e w' => e = .returned (.bool true) ∧ Below w.heap.size w w' :=
  (szc.main four_all w c0 l0 C0 n0 k0 T0 q0 j0 hp0 hs0 hw0 hr0 A1 n1 c1 z1 r1 b1 (by omega) at_ nn ⟨nn0, nn1⟩ again m ⟨m0, m1⟩).mono fun e w' ⟨he, hk⟩ => ⟨he, hk.done⟩
end sizingCheck
end Go.Proofs.Ytgjlibecgkhocaa
