/- attach.Serve, walked: what each order takes of a net pay, and what is left, as the plain function 'serveF' tells it. Condition: the list's bytes are within Go's reach. -/
import Derived.Test.YtkeokccafbjmoaaAttA
import Derived.Test.YtkeokccafbjmoaaKit
import Derived.Deep.DeepMust
set_option linter.unusedVariables false
set_option linter.unusedSimpArgs false
namespace Go.Proofs.Ytkeokccafbjmoaa
open Go.RowKit Go.Proofs.YtkeokccafbjmoaaW.PrintWords Go.Proofs.YtkeokccafbjmoaaW.PrintLast Go.Proofs.YtkeokccafbjmoaaW.PrintMore Go.Proofs.Ytkeokccafbjmoaa.Pr
attribute [local go_sem] max2_mx min2_mn max_two min_two

/-- What orders take, one behind the other; what is left; the first error. -/
def outs (net prot : Int) : Int → List S31 → List S43
  | _, [] => []
  | left, s :: r => oneT net (mx 0 (wrap64 (left - prot))) s :: outs net prot (wrap64 (left - (oneT net (mx 0 (wrap64 (left - prot))) s).f4)) r
def rest (net prot : Int) : Int → List S31 → Int
  | left, [] => left
  | left, s :: r => rest net prot (wrap64 (left - (oneT net (mx 0 (wrap64 (left - prot))) s).f4)) r
def errL (net : Int) : List S31 → Int
  | [] => 0
  | s :: r => if oneE net s = 0 then errL net r else oneE net s
def servE (net prot : Int) (l : List S31) : Int := if okA net && okA prot then (if prot < 0 then 1 else errL net l) else 10
def servO (net prot : Int) (l : List S31) : List S43 := if servE net prot l = 0 then outs net prot net l else []
def servL (net prot : Int) (l : List S31) : Int := if servE net prot l = 0 then rest net prot net l else 0

theorem drop_at (l : List S31) (i : Nat) (h : i < l.length) : l.drop i = rd_T31 l i :: l.drop (i + 1) := by
  rw [List.drop_eq_getElem_cons h]
  simp [rd_T31, h]
theorem outs_length (net prot : Int) : ∀ (left : Int) (l : List S31), (outs net prot left l).length = l.length
  | _, [] => rfl
  | _, s :: r => by simp [outs, outs_length net prot _ r]
theorem tup3 {v v' : Value} {a b a' b' : Int} (h0 : v = v') (h1 : a = a') (h2 : b = b') : Ending.returned (.tuple #[v, .int .i64 a, .int .i64 b]) = Ending.returned (.tuple #[v', .int .i64 a', .int .i64 b']) := by rw [h0, h1, h2]

theorem infoT : (Try.prog.info? 43).map (fun i => (i.zero, i.size, i.bytes)) = some (some (.agg #[.int .i64 0, .int .i64 0, .int .i64 0, .int .i64 0, .int .i64 0, .int .i64 0]), 6, 48) := by kernel_rfl

/-- What holds at the label. -/
def serveJ (net prot : Int) (ad : Option Addr) (c : Nat) (l : List S31) (w : World) (a' : Act) (w' : World) : Prop :=
  ∃ (i : Nat) (lf : Int) (v : Value) (done : List S43) (u12 u13 u14 u15 u16 u17 u18 u19 u20 u21 u22 u23 u24 u25 u26 u27 u28 u29 u30 u31 u32 u33 u34 u35 u36 u37 u38 u39 u40 u41 u42 u43 u44 u45 u46 u47 u48 u49 u50 u51 u52 u53 : Value), a' = { tmps := #[.int .i64 net, .int .i64 prot, .slice ad l.length c, undef, undef, undef, .slice none 0 0, .int .i64 0, .int .i64 0, v, .int .i64 lf, .int .i64 (i : Int), u12, u13, u14, u15, u16, u17, u18, u19, u20, u21, u22, u23, u24, u25, u26, u27, u28, u29, u30, u31, u32, u33, u34, u35, u36, u37, u38, u39, u40, u41, u42, u43, u44, u45, u46, u47, u48, u49, u50, u51, u52, u53], defers := [] } ∧ i ≤ l.length ∧ Kd.R k43 43 w' w.heap.size (fun _ => True) v done ∧ done.length = i ∧ Below w.heap.size w w' ∧ outs net prot net l = done ++ outs net prot lf (l.drop i) ∧ rest net prot net l = rest net prot lf (l.drop i) ∧ errL net l = errL net (l.drop i)
def serveM (n : Nat) (a' : Act) (_ : World) : Nat := n - (RowKit.intOf (a'.tmps.getD 11 undef)).toNat

set_option maxHeartbeats 1600000 in
set_option maxRecDepth 100000 in
theorem serve_any (net prot : Int) (A : Option Addr) (c : Nat) (l : List S31) (w : World) (hr : Kd.C k31 w A l.length l) (hb : l.length * 56 ≤ 140737488351232) :
    Calls Try.prog 4 #[.int .i64 net, .int .i64 prot, .slice A l.length c] w fun e w' => ∃ v, e = .returned (.tuple #[v, .int .i64 (servL net prot l), .int .i64 (servE net prot l)]) ∧ Kd.R k43 43 w' w.heap.size (fun _ => True) v (servO net prot l) ∧ Below w.heap.size w w' := by
  by_cases h1 : (okA net && okA prot) = true
  · by_cases h2 : prot < 0
    · have E : servE net prot l = 1 := by simp only [servE, h1, h2, if_true]
      have HE := Lib.hid E
      clear E
      go_enter Try.func4, Try.ntmps4
      go_wp2_with fail
      refine wp_scope_straight ?_
      go_wp2_with fail
      refine (right2_any net prot _ _ _ (C_int_new .i64 [net, prot] w 2 (by simp)) (Nat.le_refl _)).mono ?_
      rintro e w1 ⟨rfl, ⟨⟨n, rfl⟩⟩⟩
      rw [h1]
      go_wp2_with fail
      rw [Exit.noGoto_ret]
      go_ret3
      have e1 := HE.out
      refine ⟨.slice none 0 0, tup3 rfl ?_ ?_, ?_, pw_below_drewN (below_alloc (Below.refl _ _) _) _⟩
      · simp [servL, e1]
      · simp [e1]
      · simp only [servO, e1]
        exact Kd.R_nil _ _ _ _ _
    · have E : servE net prot l = errL net l := by simp only [servE, h1, h2, if_true, if_false]
      have HE := Lib.hid E
      clear E
      go_enter Try.func4, Try.ntmps4
      go_wp2_with fail
      refine wp_scope_loop 0 (serveJ net prot A c l w) (serveM l.length) rfl ?pass ?first
      case pass =>
        rintro a' wr ⟨i, lf, v, done, u12, u13, u14, u15, u16, u17, u18, u19, u20, u21, u22, u23, u24, u25, u26, u27, u28, u29, u30, u31, u32, u33, u34, u35, u36, u37, u38, u39, u40, u41, u42, u43, u44, u45, u46, u47, u48, u49, u50, u51, u52, u53, rfl, hi, hR, hd, hB, hS, hS2, hS3⟩
        have HS := Lib.hid (And.intro hS (And.intro hS2 hS3))
        have HD := Lib.hid hd
        clear hS hS2 hS3 hd
        by_cases hlt : i < l.length
        · have hwr : w.heap.size ≤ wr.heap.size := hB.size
          have hCr := Kd.C_below hr hB
          obtain ⟨ad, rfl, x0, x1, x2, x3, x4, x5, x6⟩ := at_T31 hCr (i : Int) (by omega) (by omega)
          simp only [Int.toNat_natCast] at x0 x1 x2 x3 x4 x5 x6
          go_wp2_with fail
          refine (one_any net _ (rd_T31 l i) _).mono ?_
          rintro e w1 ⟨rfl, hb1⟩
          have hbw1 := hB.trans (hb1.mono hwr)
          by_cases he : oneE net (rd_T31 l i) = 0
          · generalize ht : oneT net (mx 0 (wrap64 (lf - prot))) (rd_T31 l i) = t
            have HT := Lib.hid ht
            have hw1 := hb1.size
            clear ht x0 x1 x2 x3 x4 x5 x6 hCr
            have hdn : (done.length + 1) * 48 ≤ 140737488355328 := by rw [HD.out]; omega
            have hR1 := Kd.R_below hR hb1
            go_wp2_with (at_builtin; refine Kd.R_append k43 (w0 := w) w.heap.size rfl _ _ 24 43 _ 48 rfl Try.underlying24 infoT rfl (by decide) (by decide) v done t [.int .i64 t.f0, .int .i64 t.f1, .int .i64 t.f2, .int .i64 t.f3, .int .i64 t.f4, .int .i64 t.f5] (fun _ => True) (fun _ => False) rfl (by first | (go_simp; done) | (go_simp; rfl)) (k43_mkM _ _ _ t) (fun _ h => h.elim) (fun _ _ => trivial) (Kd.R_below hR1 (below_alloc (Below.refl _ _) _)) (below_alloc hbw1 _) (by simp; omega) hdn ?_; intro v1 w2 hR2 hB2 hg2 hat2; have hx4 := cell_kept_new hg2 (R_lt hR1) 4 (.int .i64 t.f4) rfl)
            go_step3
            obtain ⟨hs1, hs2, hs3⟩ := HS.out
            have hT := HT.out
            refine ⟨rfl, ⟨i + 1, _, v1, done ++ [t], _, _, _, _, _, _, _, _, _, _, _, _, _, _, _, _, _, _, _, _, _, _, _, _, _, _, _, _, _, _, _, _, _, _, _, _, _, _, _, _, _, _, rfl, by omega, hR2, by simp [HD.out], hB2, ?_, ?_, ?_⟩, ?_⟩
            · rw [hs1, drop_at l i hlt, outs, hT, List.append_assoc]
              rfl
            · rw [hs2, drop_at l i hlt, rest, hT]
            · rw [hs3, drop_at l i hlt, errL, if_pos he]
            · simp [serveM, RowKit.intOf]
              omega
          · clear x0 x1 x2 x3 x4 x5 x6 hCr
            go_wp2_with fail
            simp only [Exit.jump]
            go_ret3
            obtain ⟨hs1, hs2, hs3⟩ := HS.out
            have e1 := HE.out
            have e2 : servE net prot l = oneE net (rd_T31 l i) := by rw [e1, hs3, drop_at l i hlt, errL, if_neg he]
            refine ⟨.slice none 0 0, tup3 rfl ?_ ?_, ?_, below_alloc hbw1 _⟩
            · simp [servL, e2, he]
            · simp [e2]
            · simp only [servO, e2, he, if_false]
              exact Kd.R_nil _ _ _ _ _
        · have hl : i = l.length := by omega
          have HL := Lib.hid hl
          have hlt' : ((i : Int) == (l.length : Int)) = true := by simp [hl]
          clear hl
          go_wp2_with fail
          simp only [Exit.jump]
          go_ret3
          obtain ⟨hs1, hs2, hs3⟩ := HS.out
          have e1 := HE.out
          have hl := HL.out
          have hd0 : l.drop i = [] := by rw [hl]; simp
          rw [hd0] at hs1 hs2 hs3
          have e2 : servE net prot l = 0 := by rw [e1, hs3]; rfl
          refine ⟨v, tup3 rfl ?_ ?_, ?_, hB⟩
          · simp [servL, e2, hs2, rest]
          · simp [e2]
          · simp only [servO, e2, if_true, hs1, outs, List.append_nil]
            exact hR
      case first =>
        intro HJ
        go_wp2_with fail
        refine (right2_any net prot _ _ _ (C_int_new .i64 [net, prot] w 2 (by simp)) (Nat.le_refl _)).mono ?_
        rintro e w1 ⟨rfl, ⟨⟨n, rfl⟩⟩⟩
        rw [h1]
        go_wp2_with fail
        go_step3
        refine ‹∀ (a : Act) (w : World), Code.wp _ _ _ a w → _› _ _ ?_
        exact HJ _ _ ⟨0, net, _, [], _, _, _, _, _, _, _, _, _, _, _, _, _, _, _, _, _, _, _, _, _, _, _, _, _, _, _, _, _, _, _, _, _, _, _, _, _, _, _, _, _, _, rfl, Nat.zero_le _, Kd.R_nil _ _ _ _ _, rfl, pw_below_drewN (below_alloc (Below.refl _ _) _) _, by simp, by simp, by simp⟩
  · have E : servE net prot l = 10 := by unfold servE; rw [if_neg h1]
    have HE := Lib.hid E
    have h1' : (okA net && okA prot) = false := by simpa using h1
    clear E
    go_enter Try.func4, Try.ntmps4
    go_wp2_with fail
    refine wp_scope_straight ?_
    go_wp2_with fail
    refine (right2_any net prot _ _ _ (C_int_new .i64 [net, prot] w 2 (by simp)) (Nat.le_refl _)).mono ?_
    rintro e w1 ⟨rfl, ⟨⟨n, rfl⟩⟩⟩
    rw [h1']
    go_wp2_with fail
    rw [Exit.noGoto_ret]
    go_ret3
    have e1 := HE.out
    refine ⟨.slice none 0 0, tup3 rfl ?_ ?_, ?_, pw_below_drewN (below_alloc (Below.refl _ _) _) _⟩
    · simp [servL, e1]
    · simp [e1]
    · simp only [servO, e1]
      exact Kd.R_nil _ _ _ _ _
#print axioms serve_any
end Go.Proofs.Ytkeokccafbjmoaa
