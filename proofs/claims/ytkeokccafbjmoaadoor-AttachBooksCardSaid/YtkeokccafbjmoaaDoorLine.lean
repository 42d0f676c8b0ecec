/- attach.Line, walked: the four amounts of what an order took, as they are written. -/
import Derived.Test.YtkeokccafbjmoaaDoorServe
import Derived.Deep.RegionHeld3
set_option linter.unusedVariables false
set_option linter.unusedSimpArgs false
namespace Go.Proofs.YtkeokccafbjmoaaDoor
open Go.RowKit Go.Proofs.YtkeokccafbjmoaaDoorW.PrintWords Go.Proofs.YtkeokccafbjmoaaDoorW.PrintLast Go.Proofs.YtkeokccafbjmoaaDoorW.PrintMore Go.Proofs.YtkeokccafbjmoaaDoor.Pr Go.Lib

def textB (x : Int) : ByteArray := ⟨(textL x).toArray⟩
theorem textB_any (x : Int) (h0 : -9223372036854775808 ≤ x) (h1 : x ≤ 9223372036854775807) (w : World)
    (htab : Lib.TabIs Tryd.prog w "internal/strconv.uint64pow10" .u64 Lib.pow10Tab) :
    Calls Tryd.prog 25 #[.int .i64 x] w fun e w' => e = .returned (.string (textB x)) ∧ Below w.heap.size w w' := text_any x h0 h1 w htab

def i64 (x : Int) : Prop := -9223372036854775808 ≤ x ∧ x ≤ 9223372036854775807

set_option maxHeartbeats 1600000 in
set_option maxRecDepth 100000 in
theorem line_any (x : S36) (h1 : i64 x.f1) (h2 : i64 x.f2) (h4 : i64 x.f4) (h5 : i64 x.f5) (w : World)
    (htab : Lib.TabIs Tryd.prog w "internal/strconv.uint64pow10" .u64 Lib.pow10Tab) :
    Calls Tryd.prog 14 #[.agg #[.int .i64 x.f0, .int .i64 x.f1, .int .i64 x.f2, .int .i64 x.f3, .int .i64 x.f4, .int .i64 x.f5]] w fun e w' => ∃ b, e = .returned (.slice (some ⟨b, 0, none⟩) 4 4) ∧ Kd.C Kd.string w' (some ⟨b, 0, none⟩) 4 [textB x.f1, textB x.f2, textB x.f4, textB x.f5] ∧ Below w.heap.size w w' := by
  have htb := tabBelow_of_tabIs htab
  have HT : Hid (∀ w', Below w.heap.size w w' → Lib.TabIs Tryd.prog w' "internal/strconv.uint64pow10" .u64 Lib.pow10Tab) := htb
  clear htb htab
  have h0 := Below.refl w.heap.size w
  obtain ⟨a1, b1⟩ := h1
  obtain ⟨a2, b2⟩ := h2
  obtain ⟨a4, b4⟩ := h4
  obtain ⟨a5, b5⟩ := h5
  go_enter Tryd.func14, Tryd.ntmps14
  go_wp2_with fail
  go_region_held3 (fun w' => w'.cell? ⟨w.heap.size, 1, none⟩ = some (.int .i64 x.f1) ∧ w'.cell? ⟨w.heap.size, 2, none⟩ = some (.int .i64 x.f2) ∧ w'.cell? ⟨w.heap.size, 4, none⟩ = some (.int .i64 x.f4) ∧ w'.cell? ⟨w.heap.size, 5, none⟩ = some (.int .i64 x.f5) ∧ w.heap.size < w'.heap.size ∧ Below w.heap.size w w')
    (refine ⟨?_, ?_, ?_, ?_, ?_, ?_⟩ <;> first | with_reducible assumption | exact (show Below w.heap.size w _ by repeat (first | with_reducible assumption | with_reducible apply bdrew | with_reducible apply pw_below_drewN | with_reducible refine below_alloc ?_ _)) | (go_keep; done) | (simp; omega))
    (first | (go_at_call 25; refine (textB_any _ (by assumption) (by assumption) _ (HT _ (show Below w.heap.size w _ by repeat (first | with_reducible assumption | with_reducible apply bdrew | with_reducible apply pw_below_drewN | with_reducible refine below_alloc ?_ _)))).mono ?_; rintro e w1 ⟨rfl, hb1⟩; have hB1 := bnext (show Below w.heap.size w _ by repeat (first | with_reducible assumption | with_reducible apply bdrew | with_reducible apply pw_below_drewN | with_reducible refine below_alloc ?_ _)) hb1; obtain ⟨hc1, hf1⟩ := bcell hb1; have hz1 : w.heap.size < w1.heap.size := (by have := hb1.size; (try simp at this); omega)))
  go_wp2
  go_ret
  refine ⟨_, rfl, ?_, (show Below w.heap.size w _ by repeat (first | with_reducible assumption | with_reducible apply bdrew | with_reducible apply pw_below_drewN | with_reducible refine below_alloc ?_ _))⟩
  exact C_str_new [textB x.f1, textB x.f2, textB x.f4, textB x.f5] _ _ (by simp)
#print axioms line_any
end Go.Proofs.YtkeokccafbjmoaaDoor
