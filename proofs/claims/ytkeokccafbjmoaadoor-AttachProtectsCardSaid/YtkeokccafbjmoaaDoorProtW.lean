/- AttachProtects, walked: it returns true, whatever the input. Condition: the library's table of powers of ten reads as it is laid. -/
import Derived.Test.YtkeokccafbjmoaaDoorAttP
import Derived.Test.YtkeokccafbjmoaaDoorServes
set_option linter.unusedVariables false
set_option linter.unusedSimpArgs false
namespace Go.Proofs.YtkeokccafbjmoaaDoor
open Go.RowKit Go.Proofs.YtkeokccafbjmoaaDoorW.PrintWords Go.Proofs.YtkeokccafbjmoaaDoorW.PrintLast Go.Proofs.YtkeokccafbjmoaaDoorW.PrintMore Go.Proofs.YtkeokccafbjmoaaDoor.Pr
attribute [local go_sem] max2_mx min2_mn max_two min_two

set_option maxHeartbeats 1600000 in
set_option maxRecDepth 100000 in
theorem protects_walk (net prot : Int) (A : Option Addr) (c : Nat) (l : List S32) (w : World) (htab : Lib.TabIs Tryd.prog w "internal/strconv.uint64pow10" .u64 Lib.pow10Tab)
    (hr : Kd.C k32 w A l.length l) (hc : l.length ≤ c) :
    Calls Tryd.prog 4 #[.int .i64 net, .int .i64 prot, .slice A l.length c] w fun e w' => e = .returned (.bool true) ∧ Below w.heap.size w w' := by
  go_enter Tryd.func4, Tryd.ntmps4
  go_wp2_with fail
  refine (serves_any _ htab).mono ?_
  rintro e w1 ⟨rfl, hb1⟩
  have hr1 := Kd.C_below hr hb1
  obtain ⟨b, hb, hcall⟩ := may_any l hr1.2.1 A c w1 hr1 hc
  cases b with
  | false =>
    go_wp2_with fail
    refine hcall.mono ?_
    rintro e w2 ⟨rfl, hb2⟩
    go_wp2
    go_ret
    exact ⟨rfl, bnext hb1 hb2⟩
  | true =>
    obtain ⟨h20, hgood⟩ := hb rfl
    have HC := Lib.hid hcall
    clear hcall hb
    go_wp2_with fail
    refine HC.out.mono ?_
    rintro e w2 ⟨rfl, hb2⟩
    have hB2 := bnext hb1 hb2
    clear HC
    go_wp2_with fail
    refine (serve_any net prot A c l _ (Kd.C_below hr1 hb2) (by omega)).mono ?_
    rintro e w3 ⟨v, rfl, hR, hb3⟩
    have hB3 := bnext hB2 hb3
    by_cases hE : servE net prot l = 0
    · obtain ⟨o1, o2, o3, o4⟩ := servE_zero net prot l hE
      rw [okA_iff] at o1 o2
      obtain ⟨g1, g2, g3, g4⟩ := outs_facts net prot ⟨o3, o2.2⟩ l net o1.1 o1.2 (goods_of l (fun j hj => hgood j hj)) o4
      have e1 : servO net prot l = outs net prot net l := by simp [servO, hE]
      have e2 : servL net prot l = rest net prot net l := by simp [servL, hE]
      rw [e1] at hR
      rw [e2, hE]
      have hlen := outs_length net prot net l
      generalize rest net prot net l = lf at *
      generalize outs net prot net l = o at *
      obtain ⟨A', c', rfl, hc', hC'⟩ := Kd.R_reads hR
      have hsum : sumF o ≤ 100000000000 := by omega
      have hg1 := Lib.hid g1
      have hmn : mn net prot ≤ lf := by rw [mn_def]; exact g2
      have heq : (net - lf == sumF o) = true := by rw [beq_iff_eq]; exact g1.symm
      have hwr : wrap64 (net - lf) = net - lf := wrap64_id (by omega) (by omega)
      have HW := Lib.hid hwr
      have hS := sum_any o (by omega) g4 hsum A' c' w3 hC' hc'
      have HS := Lib.hid hS
      obtain ⟨oa, ob⟩ := o1
      obtain ⟨oc, od⟩ := o2
      have lo : -100000000000 ≤ lf := by omega
      have lhi : lf ≤ 100000000000 := by omega
      clear g1 hwr hS g2 e1 e2 hlen hR hC' hE hr1 hgood g4 o4
      go_wp2_with fail
      refine HS.out.mono ?_
      rintro e w4 ⟨rfl, hb4⟩
      clear HS
      go_wp2
      go_ret
      exact ⟨rfl, bnext hB3 hb4⟩
    · have hne : (servE net prot l != 0) = true := by simpa using hE
      go_wp2
      go_ret
      exact ⟨rfl, hB3⟩
#print axioms protects_walk
end Go.Proofs.YtkeokccafbjmoaaDoor
