/- order.Words, walked: the five words of an order. -/
import Derived.Test.YtfimheedecdaiaaDoorG4
set_option linter.unusedVariables false
set_option linter.unusedSimpArgs false
namespace Go.Proofs.YtfimheedecdaiaaDoor
open Go Go.RowKit Go.Lib Go.Shelf Go.Proofs.YtfimheedecdaiaaDoorW.PrintWords Go.Proofs.YtfimheedecdaiaaDoorW.PrintLast Go.Proofs.YtfimheedecdaiaaDoorW.PrintMore Go.Proofs.YtfimheedecdaiaaDoor.Pr

theorem low_of_chk (o : S29) (h : chkO o = 0) : lowO o := by
  unfold chkO checkE at h
  split at h
  · omega
  · rename_i h1
    split at h
    · omega
    · rename_i h2
      split at h
      · omega
      · split at h
        · omega
        · rename_i h4
          have h2' : okA o.f2 = true ∧ okA o.f4 = true := by cases h5 : okA o.f2 <;> cases h6 : okA o.f4 <;> simp_all
          have h4' : rateOk o.f3 = true := by cases h5 : rateOk o.f3 <;> simp_all
          unfold rateOk at h4'
          simp at h4'
          exact ⟨by omega, by omega, by omega, h2'.1, h2'.2⟩

set_option maxHeartbeats 3200000 in
set_option maxRecDepth 100000 in
theorem words_any (o : S29) (ho : lowO o) (w : World) (htab : Lib.TabIs Tryd.prog w "internal/strconv.uint64pow10" .u64 Lib.pow10Tab) :
    Calls Tryd.prog 20 #[agO o] w fun e w' => ∃ b, e = .returned (.slice (some ⟨b, 0, none⟩) 5 5) ∧ Kd.C Kd.string w' (some ⟨b, 0, none⟩) 5 (wordsO o) ∧ Below w.heap.size w w' := by
  have h0 := Below.refl w.heap.size w
  have htb := tabBelow_of_tabIs htab
  have HT : Hid (∀ w', Below w.heap.size w w' → Lib.TabIs Tryd.prog w' "internal/strconv.uint64pow10" .u64 Lib.pow10Tab) := htb
  clear htb htab
  obtain ⟨⟨i0, i0'⟩, ⟨i1, i1'⟩, ⟨i3, i3'⟩, j2, j4⟩ := ho
  have m2 : -9223372036854775808 ≤ o.f2 ∧ o.f2 ≤ 9223372036854775807 := by have := (okA_iff _).1 j2; omega
  have m4 : -9223372036854775808 ≤ o.f4 ∧ o.f4 ≤ 9223372036854775807 := by have := (okA_iff _).1 j4; omega
  obtain ⟨m2, m2'⟩ := m2
  obtain ⟨m4, m4'⟩ := m4
  clear j2 j4
  unfold agO
  go_enter Tryd.func20, Tryd.ntmps20
  go_wp2_with fail
  go_region_held3 (fun w' => w'.cell? ⟨w.heap.size, 0, none⟩ = some (.int .i64 o.f0) ∧ w'.cell? ⟨w.heap.size, 1, none⟩ = some (.int .i64 o.f1) ∧ w'.cell? ⟨w.heap.size, 2, none⟩ = some (.int .i64 o.f2) ∧ w'.cell? ⟨w.heap.size, 3, none⟩ = some (.int .i64 o.f3) ∧ w'.cell? ⟨w.heap.size, 4, none⟩ = some (.int .i64 o.f4) ∧ w.heap.size < w'.heap.size ∧ Below w.heap.size w w')
    (refine ⟨?_, ?_, ?_, ?_, ?_, ?_, ?_⟩ <;> first | with_reducible assumption | exact (show Below w.heap.size w _ by repeat (first | with_reducible assumption | with_reducible apply bdrew | with_reducible apply pw_below_drewN | with_reducible refine below_alloc ?_ _)) | (go_keep; done) | (rw [hc4 _ _ (by first | assumption | omega | (simp; done) | (simp; omega))]; (first | with_reducible assumption | (go_keep; done))) | (rw [hc5 _ _ (by first | assumption | omega | (simp; done) | (simp; omega))]; (first | with_reducible assumption | (go_keep; done))) | (simp; omega))
    (first
      | (go_at_call 18; obtain ⟨g0, g1, g2, g3, g4, g5, g6⟩ := ‹World.cell? _ _ = some _ ∧ World.cell? _ _ = some _ ∧ World.cell? _ _ = some _ ∧ World.cell? _ _ = some _ ∧ World.cell? _ _ = some _ ∧ _ ∧ _›; refine (itoa_any _ (by assumption) (by assumption) _ (HT.out _ (show Below w.heap.size w _ by repeat (first | with_reducible assumption | with_reducible apply bdrew | with_reducible apply pw_below_drewN | with_reducible refine below_alloc ?_ _)))).mono ?_; rintro e w4 ⟨rfl, hb4⟩; have hB4 := bnext (show Below w.heap.size w _ by repeat (first | with_reducible assumption | with_reducible apply bdrew | with_reducible apply pw_below_drewN | with_reducible refine below_alloc ?_ _)) hb4; obtain ⟨hc4, hf4⟩ := bcell hb4; have hz4 : w.heap.size < w4.heap.size := (by have := hb4.size; (try simp at this); omega))
      | (go_at_call 19; obtain ⟨g0, g1, g2, g3, g4, g5, g6⟩ := ‹World.cell? _ _ = some _ ∧ World.cell? _ _ = some _ ∧ World.cell? _ _ = some _ ∧ World.cell? _ _ = some _ ∧ World.cell? _ _ = some _ ∧ _ ∧ _›; refine (textB_any _ (by assumption) (by assumption) _ (HT.out _ (show Below w.heap.size w _ by repeat (first | with_reducible assumption | with_reducible apply bdrew | with_reducible apply pw_below_drewN | with_reducible refine below_alloc ?_ _)))).mono ?_; rintro e w5 ⟨rfl, hb5⟩; have hB5 := bnext (show Below w.heap.size w _ by repeat (first | with_reducible assumption | with_reducible apply bdrew | with_reducible apply pw_below_drewN | with_reducible refine below_alloc ?_ _)) hb5; obtain ⟨hc5, hf5⟩ := bcell hb5; have hz5 : w.heap.size < w5.heap.size := (by have := hb5.size; (try simp at this); omega)))
  go_wp2
  go_ret
  refine ⟨_, rfl, ?_, (show Below w.heap.size w _ by repeat (first | with_reducible assumption | with_reducible apply bdrew | with_reducible apply pw_below_drewN | with_reducible refine below_alloc ?_ _))⟩
  exact C_str_new [bL (Lib.itoa o.f0), bL (Lib.itoa o.f1), textB o.f2, bL (Lib.itoa o.f3), textB o.f4] _ _ (by simp)
#print axioms words_any
end Go.Proofs.YtfimheedecdaiaaDoor
