/- WordLines, walked: it returns true, whatever the text. Condition: the variable internal/bytealg.MaxLen holds a whole number. -/
import Derived.Test.YthlmphnkphlfkaaDoorReads
set_option linter.unusedVariables false
set_option linter.unusedSimpArgs false
namespace Go.Proofs.YthlmphnkphlfkaaDoor
open Go Go.RowKit Go.Lib Go.Proofs.YthlmphnkphlfkaaDoorW.PrintWords Go.Proofs.YthlmphnkphlfkaaDoorW.PrintLast Go.Proofs.YthlmphnkphlfkaaDoorW.PrintMore Go.Proofs.YthlmphnkphlfkaaDoor.Pr

theorem joinNL_snoc (x : ByteArray) : ∀ l : List ByteArray, joinNL (l ++ [x]) = if l = [] then x.data.toList else joinNL l ++ 10 :: x.data.toList
  | [] => by simp [joinNL]
  | y :: r => by
    have ih := joinNL_snoc x r
    have hne : ¬ (y :: r = []) := by simp
    rw [List.cons_append, joinNL_cons _ _ (by simp), ih, if_neg hne]
    by_cases hr : r = []
    · rw [if_pos hr, hr, joinNL, if_pos rfl, List.append_nil]
    · rw [if_neg hr, joinNL_cons _ _ hr, List.append_assoc]
      rfl
theorem joinNL_prefix (l : List ByteArray) : ∀ k, (joinNL (l.take k)).length ≤ (joinNL l).length := by
  induction l with
  | nil => intro k; simp
  | cons y r ih =>
    intro k
    cases k with
    | zero => simp [joinNL]
    | succ k =>
      rw [List.take_succ_cons]
      by_cases hr : r = []
      · subst hr; simp
      · by_cases hk : r.take k = []
        · rw [hk, joinNL_cons _ _ hr, joinNL, if_pos rfl]; simp
        · rw [joinNL_cons _ _ hk, joinNL_cons _ _ hr]
          have := ih k
          simp
          omega
theorem joinNL_mem (x : ByteArray) : ∀ l : List ByteArray, x ∈ l → x.size ≤ (joinNL l).length
  | [], h => by simp at h
  | y :: r, h => by
    rw [joinNL, List.length_append, list_size]
    rcases List.mem_cons.1 h with rfl | h
    · omega
    · have := joinNL_mem x r h
      rw [if_neg (List.ne_nil_of_mem h)]
      simp
      omega
theorem take_word (ws : List ByteArray) (i : Nat) (h : i < ws.length) : ws.take (i + 1) = ws.take i ++ [rdS ws i] := by
  rw [List.take_succ_eq_append_getElem h]
  simp [rdS, rdOf, h]

theorem trim_last (s : ByteArray) (n : Nat) (hn : s.size = n + 1) :
    ∃ b : UInt8, (∀ h : n < s.size, s[n]'h = b) ∧ (b.toNat = 10 → s.data.toList = (trimNL s).data.toList ++ [10]) ∧ (b.toNat ≠ 10 → trimNL s = s) := by
  refine ⟨s[n]'(by omega), fun _ => rfl, ?_⟩
  have hl : s.data.toList = s.data.toList.take n ++ [s[n]] := by
    have := take_byte s 0 n (Nat.zero_le _) (by omega)
    simp only [Nat.sub_zero, List.drop_zero] at this
    rw [← this, ← hn, take_full]
  have hlen : s.data.toList.length = n + 1 := by rw [list_size]; exact hn
  have hsuf : Lib.hasSuffix s.data.toList [10] = (s[n] == 10) := by
    rw [hl]
    simp [Lib.hasSuffix, List.isSuffixOf, List.isPrefixOf]
    rw [Bool.eq_iff_iff]
    simp
    constructor <;> intro h <;> exact h.symm
  constructor
  · intro h
    have h10 : s[n] = 10 := UInt8.toNat_inj.1 h
    have : (trimNL s).data.toList = s.data.toList.take n := by
      show Lib.trimSuffix s.data.toList [10] = _
      unfold Lib.trimSuffix
      rw [hsuf, h10, hlen]
      rfl
    rw [this]
    rw [h10] at hl
    exact hl
  · intro h
    have h10 : (s[n] == 10) = false := by
      simp
      intro e
      rw [e] at h
      exact h rfl
    apply ByteArray.ext
    show (Lib.trimSuffix s.data.toList [10]).toArray = s.data
    unfold Lib.trimSuffix
    rw [hsuf, h10, if_neg (by simp)]

set_option maxHeartbeats 3200000 in
set_option maxRecDepth 100000 in
theorem lines_walk (s : ByteArray) (m : Int) (w : World) (hm : w.cell? ⟨2, 0, none⟩ = some (.int .i64 m)) (hs : s.size ≤ 140737488351232) :
    Calls Tryd.prog 7 #[.string s] w fun e w' => e = .returned (.bool true) ∧ Below w.heap.size w w' := by
  have HM := Lib.hid hm
  clear hm
  go_enter Tryd.func7, Tryd.ntmps7
  go_wp2_with fail
  refine (reads_any m _ HM.out).mono ?_
  rintro e w1 ⟨rfl, hb1⟩
  by_cases h2000 : s.size ≤ 2000
  · have hg : ¬ (2000 : Int) < (s.size : Int) := by omega
    have hln := Lib.hid (lines_any s m w1 (by omega) (max_kept hb1 HM.out))
    clear HM hs
    by_cases h0 : s.size = 0
    · have hd := data_nil s h0
      have g1 : s.toList = [] := by rw [toList_data]; exact hd
      have e0 : linesF s = [] := by unfold linesF; rw [if_pos h0]
      rw [e0] at hln
      clear hd h0 e0
      go_wp2_with fail
      refine hln.out.mono ?_
      rintro e w2 ⟨A, rfl, hC, hb2⟩
      go_wp2_with fail
      go_ret
      exact ⟨rfl, bnext hb1 hb2⟩
    · obtain ⟨n, hn⟩ : ∃ n, s.size = n + 1 := ⟨s.size - 1, by omega⟩
      have hne := toList_ne' s (by omega)
      have he : s.toList.isEmpty = false := by
        cases hh : s.toList with
        | nil => exact absurd hh hne
        | cons => rfl
      have hls : linesF s = splitNL (trimNL s) := by unfold linesF; rw [if_neg h0]
      obtain ⟨f1, f2⟩ := split_facts _ (trimNL s) rfl
      have hlen := splitNL_len (trimNL s)
      have htz : (trimNL s).size ≤ s.size := by
        rw [← list_size, ← list_size]
        show (Lib.trimSuffix s.data.toList [10]).length ≤ _
        unfold Lib.trimSuffix
        split <;> simp
      obtain ⟨b, hb, htl⟩ := trim_last s n hn
      have HB := Lib.hid hb
      have HT := Lib.hid htl
      clear hb htl
      have hcl := Lib.countB_le nl (by decide) (trimNL s).size (trimNL s) (Nat.le_refl _)
      change joinNL (splitNL (trimNL s)) = _ at f1
      change ∀ x ∈ splitNL (trimNL s), _ at f2
      rw [hls] at hln
      have hll : (splitNL (trimNL s)).length ≤ 2001 := by omega
      have hl1 : 1 ≤ (splitNL (trimNL s)).length := by omega
      have hjz : (joinNL (splitNL (trimNL s))).length ≤ 2000 := by rw [f1, list_size]; omega
      clear hls hlen htz hcl
      generalize splitNL (trimNL s) = ls at *
      generalize trimNL s = t at *
      have F1 := Lib.hid f1
      have F2 := Lib.hid f2
      have HN := Lib.hid hn
      clear f1 f2 hn h0 h2000
      go_wp2_with fail
      refine hln.out.mono ?_
      rintro e w2 ⟨A, rfl, hC, hb2⟩
      have HC := Lib.hid hC
      clear hC hln
      go_wp2_with fail
      go_loop [4, 22] (fun v4 v22 => ∃ (k : Nat) (acc : ByteArray), v4 = .string acc ∧ v22 = .int .i64 (k : Int) ∧ k ≤ ls.length ∧ Hid (acc.data.toList = joinNL (ls.take k)) ∧ acc.size ≤ 2000) (fun _ v22 => ls.length - (RowKit.intOf v22).toNat)
      case atStart => exact ⟨0, _, rfl, rfl, Nat.zero_le _, Lib.hid rfl, by decide⟩
      case round =>
        obtain ⟨k, acc, rfl, rfl, hk, hacc, haz⟩ := hrel
        by_cases hlt : k < ls.length
        · obtain ⟨ad, rfl, x0⟩ := Kd.at_string HC.out (k : Int) (by omega) (by omega)
          simp only [Int.toNat_natCast] at x0
          have hx : rdOf ByteArray.empty ls (k : Int) = rdS ls k := rfl
          rw [hx] at x0
          have htk := take_word ls k hlt
          have hxm := rdS_mem ls k hlt
          have hx2 := joinNL_mem _ _ hxm
          have hx3 := Lib.hid (F2.out _ hxm)
          have hx4 := joinNL_snoc (rdS ls k) (ls.take k)
          have hx5 := joinNL_prefix ls (k + 1)
          rw [← htk] at hx4
          generalize rdS ls k = x at *
          have hxz : (x.size : Int) ≤ 2000 := by omega
          have haI : (acc.size : Int) ≤ 2000 := by omega
          have H4 := Lib.hid hx4
          have H5 := Lib.hid hx5
          clear hx hx4 hx5 htk hxm hx2
          have step : ∀ acc' : ByteArray, acc'.data.toList = joinNL (ls.take (k + 1)) → acc'.size ≤ 2000 := fun acc' h => by
            rw [← list_size, h]
            have := H5.out
            omega
          have Hstep := Lib.hid step
          clear step
          by_cases hk0 : k = 0
          · have gk : ¬ (0 : Int) < (k : Int) := by omega
            have hnew : (acc ++ x).data.toList = joinNL (ls.take (k + 1)) := by
              rw [H4.out, if_pos (by rw [hk0]; rfl)]
              have := hacc.out
              rw [hk0] at this
              simp [this, joinNL]
            have HNew := Lib.hid hnew
            clear hnew hk0
            go_wp2_with fail
            go_loop [33] (fun v33 => ∃ j : Nat, v33 = .int .i64 (j : Int) ∧ j ≤ x.size) (fun v33 => x.size - (RowKit.intOf v33).toNat)
            case atStart => exact ⟨0, rfl, Nat.zero_le _⟩
            case round =>
              obtain ⟨j, rfl, hj⟩ := hrel
              by_cases hjl : j < x.size
              · have hb : ∀ h : j < x.size, (((x[j]'h).toNat : Int) == 10) = false := fun h => by
                  simp
                  intro e
                  refine hx3.out ?_
                  have e' : x[j] = 10 := UInt8.toNat_inj.1 (by have : x[j].toNat = 10 := by omega
                                                               rw [this]; rfl)
                  rw [← e']
                  exact List.getElem_mem (by rw [list_size]; exact h)
                go_wp2_with fail
                go_round
                case rel => exact ⟨j + 1, by go_num, by omega⟩
                case measure => simp [RowKit.intOf]; omega
              · go_wp2_with fail
                exact ⟨⟨k + 1, (acc ++ x), rfl, by go_num, by omega, HNew, Hstep.out _ HNew.out⟩, by simp [RowKit.intOf]; omega⟩
          · have gk : (0 : Int) < (k : Int) := by omega
            have hnew : (acc ++ ⟨#[10]⟩ ++ x).data.toList = joinNL (ls.take (k + 1)) := by
              rw [H4.out, if_neg (by intro e; have := congrArg List.length e; rw [List.length_take, List.length_nil] at this; omega), ← hacc.out]
              simp
            have HNew := Lib.hid hnew
            clear hnew hk0
            go_wp2_with fail
            go_loop [33] (fun v33 => ∃ j : Nat, v33 = .int .i64 (j : Int) ∧ j ≤ x.size) (fun v33 => x.size - (RowKit.intOf v33).toNat)
            case atStart => exact ⟨0, rfl, Nat.zero_le _⟩
            case round =>
              obtain ⟨j, rfl, hj⟩ := hrel
              by_cases hjl : j < x.size
              · have hb : ∀ h : j < x.size, (((x[j]'h).toNat : Int) == 10) = false := fun h => by
                  simp
                  intro e
                  refine hx3.out ?_
                  have e' : x[j] = 10 := UInt8.toNat_inj.1 (by have : x[j].toNat = 10 := by omega
                                                               rw [this]; rfl)
                  rw [← e']
                  exact List.getElem_mem (by rw [list_size]; exact h)
                go_wp2_with fail
                go_round
                case rel => exact ⟨j + 1, by go_num, by omega⟩
                case measure => simp [RowKit.intOf]; omega
              · go_wp2_with fail
                exact ⟨⟨k + 1, (acc ++ ⟨#[10]⟩ ++ x), rfl, by go_num, by omega, HNew, Hstep.out _ HNew.out⟩, by simp [RowKit.intOf]; omega⟩
        · have HK := Lib.hid (show k = ls.length by omega)
          have hat : acc.data.toList = t.data.toList := by
            have := hacc.out
            rw [HK.out, List.take_length, F1.out] at this
            exact this
          have hl0 : (0 : Int) < (ls.length : Int) := by omega
          have hbb : ∀ h : n < s.size, ((s[n]'h).toNat : Int) = (b.toNat : Int) := fun h => by rw [HB.out h]
          have hsn : (s.size : Int) - 1 = (n : Int) := by have := HN.out; omega
          have hnlt : n < s.size := by have := HN.out; omega
          by_cases h10 : b.toNat = 10
          · have e := HT.out.1 h10
            have hne2 : (acc.toList == s.toList) = false := by
              rw [toList_data, toList_data, hat]
              simp
              intro h
              rw [h] at e
              have := congrArg List.length e
              simp at this
            have hs2 : acc ++ ⟨#[10]⟩ = s := by
              apply ByteArray.ext
              apply Array.toList_inj.1
              rw [e, ← hat]
              simp
            have hI : (acc.size : Int) ≤ 2000 := by omega
            have hs3 : ((acc ++ ⟨#[10]⟩ : ByteArray).toList == s.toList) = true := by rw [hs2]; simp
            have hs4 : (acc ++ ⟨#[10]⟩ : ByteArray).toList = s.toList := by rw [hs2]
            have hs5 : ¬ acc.toList = s.toList := by simpa using hne2
            clear e h10 hat hs2
            go_wp2_with fail
            go_ret
            exact ⟨rfl, bnext hb1 hb2⟩
          · have e := HT.out.2 h10
            have hs2 : acc = s := by
              rw [e] at hat
              exact ByteArray.ext (Array.toList_inj.1 hat)
            have gb : ((b.toNat : Int) != 10) = true := by simp; omega
            subst hs2
            clear e h10 hat
            go_wp2_with fail
            go_ret
            exact ⟨rfl, bnext hb1 hb2⟩
  · have hg : (2000 : Int) < (s.size : Int) := by omega
    go_wp2_with fail
    go_ret
    exact ⟨rfl, hb1⟩
#print axioms lines_walk
end Go.Proofs.YthlmphnkphlfkaaDoor
