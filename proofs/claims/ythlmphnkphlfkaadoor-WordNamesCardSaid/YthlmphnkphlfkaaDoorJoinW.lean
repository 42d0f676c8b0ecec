/- word.Join, walked: what it answers at any words, as the plain function joinF tells it. -/
import Derived.Test.YthlmphnkphlfkaaDoorQuoteW
import Derived.Test.YthlmphnkphlfkaaDoorBuild
set_option linter.unusedVariables false
set_option linter.unusedSimpArgs false
namespace Go.Proofs.YthlmphnkphlfkaaDoor
open Go Go.RowKit Go.Lib Go.Proofs.YthlmphnkphlfkaaDoorW.PrintWords Go.Proofs.YthlmphnkphlfkaaDoorW.PrintLast Go.Proofs.YthlmphnkphlfkaaDoorW.PrintMore Go.Proofs.YthlmphnkphlfkaaDoor.Pr

/-- The line so far with one word more behind it; what Join answers: the error's number, the line. -/
def joinPut (acc : List UInt8) (i : Nat) (x : ByteArray) : List UInt8 := acc ++ ((if i = 0 then [] else [32]) ++ quoteL x.data.toList)
def joinGo (acc : List UInt8) (i : Nat) : List ByteArray → Int × List UInt8
  | [] => (0, acc)
  | x :: r => if allShown x = true then (if 512 < (joinPut acc i x).length then (2, []) else joinGo (joinPut acc i x) (i + 1) r) else (5, [])
def joinF (ws : List ByteArray) : Int × List UInt8 := if 32 < ws.length then (2, []) else joinGo [] 0 ws
def rdS (ws : List ByteArray) (i : Nat) : ByteArray := rdOf ByteArray.empty ws (i : Int)
theorem drop_word (ws : List ByteArray) (i : Nat) (h : i < ws.length) : ws.drop i = rdS ws i :: ws.drop (i + 1) := by
  rw [List.drop_eq_getElem_cons h]
  simp [rdS, rdOf, h]
theorem rdS_mem (ws : List ByteArray) (i : Nat) (h : i < ws.length) : rdS ws i ∈ ws := by
  simp [rdS, rdOf, h]
theorem quoteL_len (l : List UInt8) : (quoteL l).length ≤ l.length + 2 := by
  unfold quoteL
  split <;> simp <;> omega
theorem quoteB_size (s : ByteArray) : (quoteB s).size = (quoteL s.data.toList).length := by
  rw [← list_size]
  rfl
theorem strCells_bytes (s : ByteArray) : Lib.strCells s = Lib.byteCells s.data.toList := by rfl
theorem bytes_app (a b : List UInt8) : Lib.byteCells (a ++ b) = Lib.byteCells a ++ Lib.byteCells b := by simp [Lib.byteCells]
theorem bld_new (w : World) : Bld w.heap.size w.heap.size (Lib.byteCells []) (w.alloc (.cells #[.pointer none, .slice none 0 0] 43)) :=
  .inl ⟨Nat.le_refl _, _, heap_alloc_new w _, own_nil _ _ _ _, by simp [Value.ownBlock]⟩

set_option maxHeartbeats 1600000 in
set_option maxRecDepth 100000 in
theorem join_any (A : Option Addr) (c : Nat) (ws : List ByteArray) (w : World) (hr : Kd.C Kd.string w A ws.length ws) (hsz : ∀ x ∈ ws, x.size ≤ 140737488351232) :
    Calls Tryd.prog 9 #[.slice A ws.length c] w fun e w' => e = .returned (.tuple #[.string ⟨(joinF ws).2.toArray⟩, .int .i64 (joinF ws).1]) ∧ Below w.heap.size w w' := by
  by_cases h32 : ws.length ≤ 32
  · have h32' : (ws.length : Int) ≤ 32 := by omega
    have HC := Lib.hid hr
    have HZ := Lib.hid hsz
    have E := Lib.hid (show joinF ws = joinGo [] 0 ws by unfold joinF; rw [if_neg (by omega)])
    clear hr hsz
    go_enter Tryd.func9, Tryd.ntmps9
    go_wp2_with fail
    go_loopw [14] (fun v14 wr => ∃ (k : Nat) (acc : List UInt8), v14 = .int .i64 (k : Int) ∧ k ≤ ws.length ∧ Hid (joinF ws = joinGo acc k (ws.drop k)) ∧ acc.length ≤ 512 ∧ Hid (Bld w.heap.size w.heap.size (Lib.byteCells acc) wr) ∧ Below w.heap.size w wr) (fun v14 _ => ws.length - (RowKit.intOf v14).toNat)
    case atStart => exact ⟨0, [], rfl, Nat.zero_le _, E, by simp, Lib.hid (bld_new w), below_alloc (Below.refl _ _) _⟩
    case round =>
      obtain ⟨k, acc, rfl, hk, hE, hacc, hBl, hB⟩ := hrel
      by_cases hlt : k < ws.length
      · have hCr := Kd.C_below HC.out hB
        obtain ⟨ad, rfl, x0⟩ := Kd.at_string hCr (k : Int) (by omega) (by omega)
        simp only [Int.toNat_natCast] at x0
        have hx : rdOf ByteArray.empty ws (k : Int) = rdS ws k := rfl
        rw [hx] at x0
        have hd := Lib.hid (drop_word ws k hlt)
        have hxs := HZ.out _ (rdS_mem ws k hlt)
        have hql := quoteL_len (rdS ws k).data.toList
        rw [list_size] at hql
        have hqs := quoteB_size (rdS ws k)
        generalize rdS ws k = x at *
        clear hx hCr
        by_cases hsh : allShown x = true
        · have e1 : quoteV x = quoteB x := by simp [quoteV, hsh]
          have e2 : quoteE x = 0 := by simp [quoteE, hsh]
          have HS := Lib.hid hsh
          have HQ := Lib.hid hqs
          have HL := Lib.hid hql
          have hlen : acc.length + (1 + (quoteB x).size) ≤ 140737488355328 := by omega
          have H1 := Lib.hid hlen
          have hq := Lib.hid (quote_any x)
          rw [e1, e2] at hq
          clear e1 e2 hsh hqs hql hlen
          by_cases hk0 : k = 0
          · have gk : ¬ ((0 : Int) < (k : Int)) := by omega
            have K0 := Lib.hid hk0
            clear hk0
            go_wp2_with fail
            refine (hq.out _ hxs).mono ?_
            rintro e w1 ⟨rfl, ⟨⟨n, rfl⟩⟩⟩
            have hB1 := pw_below_drewN hB n
            have hBl1 := Lib.hid (show Bld w.heap.size w.heap.size (Lib.byteCells acc) (wr.drewN n) from hBl.out)
            go_wp2_with fail
            refine (writeString_any w.heap.size w.heap.size (Lib.byteCells acc) (quoteB x) _ hBl1.out (by rw [Lib.byteCells_length]; have := H1.out; omega) hB1.size).mono ?_
            rintro e w2 ⟨rfl, hU, hB2⟩
            have hU' : BldU w.heap.size w.heap.size (Lib.byteCells (joinPut acc k x)) w2 := by
              rw [strCells_bytes, ← Lib.byteCells_append] at hU
              simp only [joinPut, K0.out, if_true, List.nil_append]
              exact hU
            have hA : Hid (joinF ws = if 512 < (joinPut acc k x).length then (2, []) else joinGo (joinPut acc k x) (k + 1) (ws.drop (k + 1))) := by
              have := hE.out
              rw [hd.out, joinGo, if_pos HS.out] at this
              exact Lib.hid this
            have HLen := Lib.hid (Tryd.Builder_Len w.heap.size w.heap.size _ w2 (.inr hU'))
            rw [Lib.byteCells_length] at HLen
            have HU := Lib.hid hU'
            have hB3 := hB1.trans hB2
            clear hU hU' hq
            generalize joinPut acc k x = a' at *
            by_cases hbig : 512 < a'.length
            · have gb : (512 : Int) < (a'.length : Int) := by omega
              go_wp2_with fail
              refine HLen.out.mono ?_
              rintro e w3 ⟨rfl, rfl⟩
              go_wp2_with fail
              go_ret2
              have e := hA.out
              rw [if_pos hbig] at e
              rw [e]
              exact ⟨rfl, hB3⟩
            · have gb : ¬ ((512 : Int) < (a'.length : Int)) := by omega
              go_wp2_with fail
              refine HLen.out.mono ?_
              rintro e w3 ⟨rfl, rfl⟩
              go_wp2
              refine ⟨⟨k + 1, a', by go_num, by omega, ?_, by omega, Lib.hid (.inr HU.out), hB3⟩, by simp [RowKit.intOf]; omega⟩
              have e := hA.out
              rw [if_neg hbig] at e
              exact Lib.hid e
          · have gk : (0 : Int) < (k : Int) := by omega
            have K0 := Lib.hid hk0
            clear hk0
            go_wp2_with fail
            refine (hq.out _ hxs).mono ?_
            rintro e w1 ⟨rfl, ⟨⟨n, rfl⟩⟩⟩
            have hB0 := pw_below_drewN hB n
            have hBl0 := Lib.hid (show Bld w.heap.size w.heap.size (Lib.byteCells acc) (wr.drewN n) from hBl.out)
            go_wp2_with fail
            refine (writeByte_any w.heap.size w.heap.size (Lib.byteCells acc) 32 _ hBl0.out (by rw [Lib.byteCells_length]; have := H1.out; omega) hB0.size).mono ?_
            rintro e w1 ⟨rfl, hU0, hb1⟩
            have hB1 : Below w.heap.size w w1 := hB0.trans hb1
            have hU1 : BldU w.heap.size w.heap.size (Lib.byteCells (acc ++ [32])) w1 := by
              rw [Lib.byteCells_append]
              exact hU0
            have HU1 := Lib.hid hU1
            clear hU0 hU1
            go_wp2_with fail
            refine (writeString_any w.heap.size w.heap.size (Lib.byteCells (acc ++ [32])) (quoteB x) _ (.inr HU1.out) (by rw [Lib.byteCells_length]; have := H1.out; simp; omega) hB1.size).mono ?_
            rintro e w2 ⟨rfl, hU, hB2⟩
            have hU' : BldU w.heap.size w.heap.size (Lib.byteCells (joinPut acc k x)) w2 := by
              rw [strCells_bytes, ← Lib.byteCells_append] at hU
              simp only [joinPut, if_neg K0.out]
              rw [← List.append_assoc]
              exact hU
            have hA : Hid (joinF ws = if 512 < (joinPut acc k x).length then (2, []) else joinGo (joinPut acc k x) (k + 1) (ws.drop (k + 1))) := by
              have := hE.out
              rw [hd.out, joinGo, if_pos HS.out] at this
              exact Lib.hid this
            have HLen := Lib.hid (Tryd.Builder_Len w.heap.size w.heap.size _ w2 (.inr hU'))
            rw [Lib.byteCells_length] at HLen
            have HU := Lib.hid hU'
            have hB3 := hB1.trans hB2
            clear hU hU' hq
            generalize joinPut acc k x = a' at *
            by_cases hbig : 512 < a'.length
            · have gb : (512 : Int) < (a'.length : Int) := by omega
              go_wp2_with fail
              refine HLen.out.mono ?_
              rintro e w3 ⟨rfl, rfl⟩
              go_wp2_with fail
              go_ret2
              have e := hA.out
              rw [if_pos hbig] at e
              rw [e]
              exact ⟨rfl, hB3⟩
            · have gb : ¬ ((512 : Int) < (a'.length : Int)) := by omega
              go_wp2_with fail
              refine HLen.out.mono ?_
              rintro e w3 ⟨rfl, rfl⟩
              go_wp2
              refine ⟨⟨k + 1, a', by go_num, by omega, ?_, by omega, Lib.hid (.inr HU.out), hB3⟩, by simp [RowKit.intOf]; omega⟩
              have e := hA.out
              rw [if_neg hbig] at e
              exact Lib.hid e
        · have e1 : quoteV x = ⟨#[]⟩ := by simp [quoteV, hsh]
          have e2 : quoteE x = 5 := by simp [quoteE, hsh]
          have HS := Lib.hid hsh
          have hq := Lib.hid (quote_any x)
          rw [e1, e2] at hq
          clear e1 e2 hsh
          go_wp2_with fail
          refine (hq.out _ hxs).mono ?_
          rintro e w1 ⟨rfl, ⟨⟨n, rfl⟩⟩⟩
          go_wp2_with fail
          go_ret2
          have e := hE.out
          rw [hd.out, joinGo, if_neg HS.out] at e
          rw [e]
          exact ⟨rfl, pw_below_drewN hB _⟩
      · have HK := Lib.hid (show k = ws.length by omega)
        go_wp2_with fail
        refine (Tryd.Builder_String_any w.heap.size w.heap.size acc _ hBl.out hB.size).mono ?_
        rintro e w1 ⟨rfl, hb1⟩
        go_wp2_with fail
        go_ret2
        have e := hE.out
        rw [HK.out, List.drop_length, joinGo] at e
        rw [e]
        exact ⟨rfl, hB.trans hb1⟩
  · have hg : (32 : Int) < (ws.length : Int) := by omega
    have E := Lib.hid (show joinF ws = (2, []) by unfold joinF; rw [if_pos (by omega)])
    go_enter Tryd.func9, Tryd.ntmps9
    go_wp2_with fail
    go_ret2
    rw [E.out]
    exact ⟨rfl, Below.refl _ _⟩
#print axioms join_any
end Go.Proofs.YthlmphnkphlfkaaDoor
