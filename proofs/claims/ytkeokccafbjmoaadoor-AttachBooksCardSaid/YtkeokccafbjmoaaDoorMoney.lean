/- The contracts of money.Abs and money.Text at every int64: an amount as it is written. Condition: the library's table of powers of ten reads as it is laid. -/
import Derived.Test.YtkeokccafbjmoaaDoorFmt
import Derived.Laws.Strings
import Derived.Laws.Concat
set_option linter.unusedVariables false
set_option linter.unusedSimpArgs false
namespace Go.Proofs.YtkeokccafbjmoaaDoor
open Go.RowKit Go.Sort Go.Lib Go.Shelf

theorem ret_int {k : IntKind} {a b : Int} (h : a = b) : Ending.returned (.int k a) = .returned (.int k b) := by rw [h]

/-- An amount as it is written, in bytes. -/
def textL (x : Int) : List UInt8 :=
  (if x < 0 then [45] else []) ++ (Lib.decDigits (x.natAbs / 100) ++ (46 :: ((if x.natAbs % 100 < 10 then [48] else []) ++ Lib.decDigits (x.natAbs % 100))))

set_option maxRecDepth 100000 in
theorem abs_any (x : Int) (h0 : -9223372036854775808 ≤ x) (h1 : x ≤ 9223372036854775807) (w : World) :
    Calls Tryd.prog 41 #[.int .i64 x] w fun e w' => e = .returned (.int .u64 (x.natAbs : Int)) ∧ w' = w := by
  by_cases hx : x < 0
  · go_enter Tryd.func41, Tryd.ntmps41
    go_wp2
    go_ret
    exact ⟨ret_int (by omega), rfl⟩
  · go_enter Tryd.func41, Tryd.ntmps41
    go_wp2
    go_ret
    exact ⟨ret_int (by omega), rfl⟩

theorem dec_len (n : Nat) (h : n < 18446744073709551616) : (Lib.decDigits n).length ≤ 20 := by
  rw [Lib.decDigits_length]
  by_cases h1 : 1 ≤ n
  · have := Lib.numDigits_eq n h1 h; split at this <;> omega
  · obtain rfl : n = 0 := by omega
    decide +kernel

theorem ret_string {a b : ByteArray} (h : a = b) : Ending.returned (.string a) = .returned (.string b) := by rw [h]
theorem str_app (a b : List UInt8) : (⟨a.toArray⟩ : ByteArray) ++ (⟨b.toArray⟩ : ByteArray) = ⟨(a ++ b).toArray⟩ := by
  apply ByteArray.ext
  simp

set_option maxHeartbeats 1600000 in
set_option maxRecDepth 100000 in
theorem text_any (x : Int) (h0 : -9223372036854775808 ≤ x) (h1 : x ≤ 9223372036854775807) (w : World)
    (htab : Lib.TabIs Tryd.prog w "internal/strconv.uint64pow10" .u64 Lib.pow10Tab) :
    Calls Tryd.prog 25 #[.int .i64 x] w fun e w' => e = .returned (.string ⟨(textL x).toArray⟩) ∧ Below w.heap.size w w' := by
  have htb := tabBelow_of_tabIs htab
  have l1 := dec_len (x.natAbs / 100) (by omega)
  have l2 := dec_len (x.natAbs % 100) (by omega)
  by_cases hn : x < 0 <;> by_cases hm : (x.natAbs : Int) % 100 < 10
  all_goals
    go_enter Tryd.func25, Tryd.ntmps25
    go_wp2_with fail
    refine (abs_any x h0 h1 _).mono ?_
    rintro e w1 ⟨rfl, rfl⟩
    go_wp2_with fail
    refine (fmtUintI _ (by omega) (by omega) _ htab).mono ?_
    rintro e w2 ⟨rfl, hb2⟩
    have htab2 := (htb.on hb2).here
    go_wp2_with fail
    refine (fmtUintI _ (by omega) (by omega) _ htab2).mono ?_
    rintro e w3 ⟨rfl, hb3⟩
    go_wp2
    go_ret
    refine ⟨?_, hb2.trans (hb3.mono hb2.size)⟩
  all_goals
    refine ret_string ?_
    simp only [str_app]
    clear htab htb htab2
    unfold textL
    split <;> split <;> first | omega | simp
#print axioms text_any
end Go.Proofs.YtkeokccafbjmoaaDoor
