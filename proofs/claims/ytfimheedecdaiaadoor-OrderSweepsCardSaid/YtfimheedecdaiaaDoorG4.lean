import Derived.Test.YtfimheedecdaiaaDoorG2
import Derived.Test.YtfimheedecdaiaaDoorG3
/- Book.Find, walked: the first order of a number, or none. -/
set_option linter.unusedVariables false
set_option linter.unusedSimpArgs false
namespace Go.Proofs.YtfimheedecdaiaaDoor
open Go Go.RowKit Go.Lib Go.Shelf Go.Proofs.YtfimheedecdaiaaDoorW.PrintWords Go.Proofs.YtfimheedecdaiaaDoorW.PrintLast Go.Proofs.YtfimheedecdaiaaDoorW.PrintMore Go.Proofs.YtfimheedecdaiaaDoor.Pr

def zS : S45 := ⟨⟨0, 0, 0, 0, 0⟩, 0, 0⟩
def findR (l : List S45) (n : Int) : S45 × Int := match l.find? (hasId n) with | some s => (s, 0) | none => (zS, 3)
def sC (s : S45) : Array Value := #[.int .i64 s.f0.f0, .int .i64 s.f0.f1, .int .i64 s.f0.f2, .int .i64 s.f0.f3, .int .i64 s.f0.f4, .int .i64 s.f1, .int .i64 s.f2]

set_option maxHeartbeats 3200000 in
set_option maxRecDepth 100000 in
theorem find_book (g : Nat) (l : List S45) (n : Int) (w : World) (hB : BookIs w g l) :
    Calls Tryd.prog 15 #[.pointer (some ⟨g, 0, none⟩), .int .i64 n] w fun e w' => e = .returned (.tuple #[agS (findR l n).1, .int .i64 (findR l n).2]) ∧ Below w.heap.size w w' := by
  obtain ⟨Ab, cb, b1, ⟨b2, b2'⟩, b3, b4, b5⟩ := hB.cell
  have hgl := World.block_lt_of_cell? _ _ b1
  simp only at hgl
  have HC := Lib.hid b3
  have hmax := b3.2.1
  clear b3 b4 b5 hB
  go_enter Tryd.func15, Tryd.ntmps15
  go_wp2_with fail
  go_loopw [13] (fun v13 wr => ∃ k : Nat, v13 = .int .i64 (k : Int) ∧ k ≤ l.length ∧ Hid (l.find? (hasId n) = (l.drop k).find? (hasId n)) ∧ Hid (wr.heap[w.heap.size]? = some (.cells (sC zS) 45 (0, 0))) ∧ Below w.heap.size w wr) (fun v13 _ => l.length - (RowKit.intOf v13).toNat)
  case atStart => exact ⟨0, rfl, Nat.zero_le _, Lib.hid (by simp), Lib.hid (blk_new _ _), below_alloc (Below.refl _ _) _⟩
  case round =>
    obtain ⟨k, rfl, hk, hF, hb, hBr⟩ := hrel
    have h2 := hb.out
    have hlt0 : w.heap.size < wr.heap.size := blk_lt h2
    by_cases hlt : k < l.length
    · have cN := Kd.C_below HC.out hBr
      obtain ⟨ad, e1, x0, x1, x2, x3, x4, x5, x6⟩ := at_T45 cN (k : Int) (by omega) (by omega)
      simp only [Int.toNat_natCast] at x0 x1 x2 x3 x4 x5 x6
      have hd := Lib.hid (dropS_at l k hlt)
      generalize rd_T45 l (k : Int) = s at *
      subst e1
      clear cN
      by_cases hid : s.f0.f0 = n
      · have hR : findR l n = (s, 0) := by
          unfold findR
          rw [hF.out, hd.out, List.find?_cons, show hasId n s = true from decide_eq_true hid]
        have HR := Lib.hid hR
        have hb1 : (s.f0.f0 == n) = true := by simpa using hid
        have z0 : wr.cell? ⟨w.heap.size, 0, none⟩ = some (.int .i64 0) := by rw [blk_cell h2]; rfl
        have z1 : wr.cell? ⟨w.heap.size, 1, none⟩ = some (.int .i64 0) := by rw [blk_cell h2]; rfl
        have z2 : wr.cell? ⟨w.heap.size, 2, none⟩ = some (.int .i64 0) := by rw [blk_cell h2]; rfl
        have z3 : wr.cell? ⟨w.heap.size, 3, none⟩ = some (.int .i64 0) := by rw [blk_cell h2]; rfl
        have z4 : wr.cell? ⟨w.heap.size, 4, none⟩ = some (.int .i64 0) := by rw [blk_cell h2]; rfl
        have z5 : wr.cell? ⟨w.heap.size, 5, none⟩ = some (.int .i64 0) := by rw [blk_cell h2]; rfl
        have z6 : wr.cell? ⟨w.heap.size, 6, none⟩ = some (.int .i64 0) := by rw [blk_cell h2]; rfl
        have f0 := blk_frozen h2 0
        have f1 := blk_frozen h2 1
        have f2 := blk_frozen h2 2
        have f3 := blk_frozen h2 3
        have f4 := blk_frozen h2 4
        have f5 := blk_frozen h2 5
        have f6 := blk_frozen h2 6
        clear hid hR h2
        go_wp2
        refine bodyPost_ret (v := .tuple #[agS (findR l n).1, .int .i64 (findR l n).2]) ?_ rfl ⟨rfl, ?_⟩
        · rw [HR.out]
          simp [results, Tryd.results15, agS, go_sem, z0, z1, z2, z3, z4, z5, z6, hlt0]
        · exact below_alloc (below_set (below_set (below_set (below_set (below_set (below_set (below_set (hBr) (Nat.le_refl _)) (Nat.le_refl _)) (Nat.le_refl _)) (Nat.le_refl _)) (Nat.le_refl _)) (Nat.le_refl _)) (Nat.le_refl _)) _
      · have hb1 : (s.f0.f0 == n) = false := by simpa using hid
        have hid' := Lib.hid hid
        clear hid h2
        go_wp2
        refine ⟨⟨k + 1, by go_num, by omega, Lib.hid ?_, Lib.hid (blk_alloc hb.out _), below_alloc hBr _⟩, by simp [RowKit.intOf]; omega⟩
        rw [hF.out, hd.out, List.find?_cons, show hasId n s = false from decide_eq_false hid'.out]
    · have hR : findR l n = (zS, 3) := by
        unfold findR
        rw [hF.out, List.drop_of_length_le (by omega)]
        rfl
      have HR := Lib.hid hR
      have z0 : wr.cell? ⟨w.heap.size, 0, none⟩ = some (.int .i64 0) := by rw [blk_cell h2]; rfl
      have z1 : wr.cell? ⟨w.heap.size, 1, none⟩ = some (.int .i64 0) := by rw [blk_cell h2]; rfl
      have z2 : wr.cell? ⟨w.heap.size, 2, none⟩ = some (.int .i64 0) := by rw [blk_cell h2]; rfl
      have z3 : wr.cell? ⟨w.heap.size, 3, none⟩ = some (.int .i64 0) := by rw [blk_cell h2]; rfl
      have z4 : wr.cell? ⟨w.heap.size, 4, none⟩ = some (.int .i64 0) := by rw [blk_cell h2]; rfl
      have z5 : wr.cell? ⟨w.heap.size, 5, none⟩ = some (.int .i64 0) := by rw [blk_cell h2]; rfl
      have z6 : wr.cell? ⟨w.heap.size, 6, none⟩ = some (.int .i64 0) := by rw [blk_cell h2]; rfl
      have f0 := blk_frozen h2 0
      have f1 := blk_frozen h2 1
      have f2 := blk_frozen h2 2
      have f3 := blk_frozen h2 3
      have f4 := blk_frozen h2 4
      have f5 := blk_frozen h2 5
      have f6 := blk_frozen h2 6
      clear hR h2
      go_wp2
      refine bodyPost_ret (v := .tuple #[agS (findR l n).1, .int .i64 (findR l n).2]) ?_ rfl ⟨rfl, ?_⟩
      · rw [HR.out]
        simp [results, Tryd.results15, agS, zS, go_sem, z0, z1, z2, z3, z4, z5, z6, hlt0]
      · exact below_set (below_set (below_set (below_set (below_set (below_set (below_set (hBr) (Nat.le_refl _)) (Nat.le_refl _)) (Nat.le_refl _)) (Nat.le_refl _)) (Nat.le_refl _)) (Nat.le_refl _)) (Nat.le_refl _)
end Go.Proofs.YtfimheedecdaiaaDoor

/- Book.Cancel at a number that isn't there; and what the worked example of the order laws computes. -/
set_option linter.unusedVariables false
set_option linter.unusedSimpArgs false
namespace Go.Proofs.YtfimheedecdaiaaDoor
open Go Go.RowKit Go.Lib Go.Shelf Go.Proofs.YtfimheedecdaiaaDoorW.PrintWords Go.Proofs.YtfimheedecdaiaaDoorW.PrintLast Go.Proofs.YtfimheedecdaiaaDoorW.PrintMore Go.Proofs.YtfimheedecdaiaaDoor.Pr

theorem cancelPred (o : Nat) (id : Int) (w : World) (hid : w.cell? ⟨o, 0, none⟩ = some (.int .i64 id)) : PredOn 27 #[.pointer (some ⟨o, 0, none⟩)] (hasId id) w := by
  intro W s hB
  have hc : W.cell? ⟨o, 0, none⟩ = some (.int .i64 id) := (hB.cell (World.block_lt_of_cell? _ _ hid)).trans hid
  have hlt := World.block_lt_of_cell? _ _ hc
  simp only at hlt
  show Calls Tryd.prog 27 #[agS s, .pointer (some ⟨o, 0, none⟩)] W _
  unfold agS
  go_enter Tryd.func27, Tryd.ntmps27
  go_wp2_with fail
  go_ret
  refine ⟨?_, by repeat (first | with_reducible assumption | exact Below.refl _ _ | with_reducible apply bdrew | with_reducible apply pw_below_drewN | with_reducible refine below_alloc ?_ _)⟩
  congr 2

set_option maxHeartbeats 800000 in
set_option maxRecDepth 100000 in
theorem cancel_miss (g : Nat) (l : List S45) (n : Int) (w : World) (hB : BookIs w g l) (hm : idxGo (hasId n) 0 l < 0) :
    Calls Tryd.prog 8 #[.pointer (some ⟨g, 0, none⟩), .int .i64 n] w fun e w' => e = .returned (.int .i64 3) ∧ Below w.heap.size w w' := by
  have h0 := Below.refl w.heap.size w
  obtain ⟨Ab, cb, b1, ⟨b2, b2'⟩, b3, b4, b5⟩ := hB.cell
  have hgl := World.block_lt_of_cell? _ _ b1
  simp only at hgl
  have HC := Lib.hid b3
  clear b3 b4 b5 hB
  have eg : ∀ args w, (callFunc 27 args).run Tryd.prog w = .ok (.enter 27 args) w := by
    intro args w
    kernel_rfl
  have EG := Lib.hid eg
  clear eg
  generalize hix : idxGo (hasId n) 0 l = ix at *
  have HIX := Lib.hid hix
  clear hix
  go_enter Tryd.func8, Tryd.ntmps8
  go_wp2_with fail
  refine (indexFunc_any 27 #[.pointer (some ⟨w.heap.size, 0, none⟩)] (hasId n) EG.out Ab cb l _ (Kd.C_below HC.out (below_alloc h0 _)) b2 (cancelPred w.heap.size n _ (by simp))).mono ?_
  rw [HIX.out]
  rintro e w2 ⟨rfl, hb2⟩
  have hB2 := bnext (below_alloc h0 _) hb2
  go_wp2
  go_ret
  exact ⟨rfl, hB2⟩

def o7 : S29 := ⟨7, 2, 5000, 0, 8000⟩
def o9 : S29 := ⟨9, 1, 0, 1000, 0⟩
def t7 : S43 := ⟨7, 0, 0, 0, 4000, 1000⟩
def s7 : S45 := ⟨o7, 4000, 1000⟩
theorem words7 : wordsO o7 = [⟨#[55]⟩, ⟨#[50]⟩, ⟨#[53, 48, 46, 48, 48]⟩, ⟨#[48]⟩, ⟨#[56, 48, 46, 48, 48]⟩] := by
  simp [wordsO, o7, bL, itoa, textB, textL, decDigits]
theorem low7 : lowO o7 := by unfold lowO; decide
theorem chk7 : chkO o7 = 0 := by decide
theorem chk9 : chkO o9 = 0 := by decide
theorem putNil (l' : List S45) (s : S45) (h : PutAt [] l' s) : l' = [s] := by
  obtain ⟨i, hi, e, _⟩ := h
  simp at hi
  subst hi e
  rfl
theorem putTwo (l' : List S45) (h : PutAt [sOf o7] l' (sOf o9)) : l' = [sOf o9, sOf o7] := by
  obtain ⟨i, hi, e, h1, _⟩ := h
  cases i with
  | zero => subst e; rfl
  | succ i =>
    have := h1 0 (by omega)
    exact absurd this (by decide)
theorem took7e : tookE [sOf o9, sOf o7] [t7] = 0 := by decide +kernel
theorem took7l : tookL [sOf o9, sOf o7] [t7] = [sOf o9, s7] := by unfold tookL; rw [if_pos took7e]; rfl
theorem sorted1 (s : S45) : Sorted [s] := by
  intro i j h1 h2
  simp at h2
  omega
theorem sorted0 : Sorted [] := by
  intro i j h1 h2
  simp at h2
theorem sortedEx : Sorted [sOf o9, s7] := by
  intro i j h1 h2
  simp at h2
  have hi : i = 0 := by omega
  have hj : j = 1 := by omega
  subst hi hj
  decide
theorem twice7 : addBE [sOf o9, s7] o7 = 4 := by decide
theorem find7 : findR [sOf o9, s7] 7 = (s7, 0) := by rfl
theorem miss5 : idxGo (hasId 5) 0 [sOf o9, s7] < 0 := by decide
theorem ord1 : order_State_Ordered.f 10 7 2 5000 0 8000 4000 1000 0 = some (3000, 0) := by decide +kernel
theorem ord2 : order_State_Ordered.f 10 9 1 0 1000 0 0 0 1239 = some (123, 0) := by decide +kernel
theorem left7 : order_State_Left.f 7 2 5000 0 8000 4000 1000  = some 3000 := by decide +kernel
theorem over7 : order_State_Over.f 7 2 5000 0 8000 4000 1000  = some false := by decide +kernel
theorem ag7 : agO (readO o7) = .agg #[.int .i64 7, .int .i64 2, .int .i64 5000, .int .i64 0, .int .i64 8000] := by
  unfold readO
  rw [if_pos chk7]
  rfl
theorem bgrown {w W W' : World} {g : Nat} (h : Below w.heap.size w W) (hg : W.grownBy W' (some g)) (hB : w.heap.size ≤ g) : Below w.heap.size w W' :=
  h.trans ⟨hg.os, hg.tape, hg.output, hg.size, fun k hk => hg.block k (Nat.lt_of_lt_of_le hk h.size) (fun e => by injection e with e; omega)⟩
theorem C_stay' {w W : World} {A : Option Addr} {l : List S45} {n g : Nat} (hC : Kd.C k45 w A n l) (hk : w.grownBy W (some g)) (hne : ∀ ad, A = some ad → ad.block ≠ g) : Kd.C k45 W A n l :=
  Kd.C_foot_ne (g := g) kdS hC (fun ad h _ => hne ad h) _ ⟨hk.size, fun i hi hg' _ => hk.block i hi (fun e => hg' (by injection e))⟩
end Go.Proofs.YtfimheedecdaiaaDoor

/- stipendlaw17.books, walked: true. -/
set_option linter.unusedVariables false
set_option linter.unusedSimpArgs false
namespace Go.Proofs.YtfimheedecdaiaaDoor
open Go Go.RowKit Go.Lib Go.Shelf Go.Proofs.YtfimheedecdaiaaDoorW.PrintWords Go.Proofs.YtfimheedecdaiaaDoorW.PrintLast Go.Proofs.YtfimheedecdaiaaDoorW.PrintMore Go.Proofs.YtfimheedecdaiaaDoor.Pr
theorem gcell {W w1 : World} {g : Nat} (h : W.grownBy w1 (some g)) : ∀ b o, b < W.heap.size → ¬ (b = g) → w1.cell? ⟨b, o, none⟩ = W.cell? ⟨b, o, none⟩ := fun b o hb hne => World.cell?_of_block (a := ⟨b, o, none⟩) (h.block b hb (fun e => hne (by injection e)))

set_option maxHeartbeats 3200000 in
set_option maxRecDepth 100000 in
theorem books_any (w : World) :
    Calls Tryd.prog 7 #[] w fun e w' => e = .returned (.bool true) ∧ Below w.heap.size w w' := by
  have h0 := Below.refl w.heap.size w
  go_enter Tryd.func7, Tryd.ntmps7
  go_wp2_with fail
  have hbk0 : BookIs (w.alloc (.cells #[.slice none 0 0] 26)) w.heap.size [] := ⟨⟨none, 0, by simp, ⟨Nat.le_refl _, by omega⟩, Kd.C_nil _ _, fun _ => rfl, fun ad h => by cases h⟩, blk_frozen (blk_new _ _) 0⟩
  have HK0 := Lib.hid hbk0
  clear hbk0
  refine (parse_o o7 low7 (some ⟨w.heap.size + 1, 0, none⟩) 5 _ ?_).mono ?_
  · rw [words7]
    have h := C_str_new [⟨#[55]⟩, ⟨#[50]⟩, ⟨#[53, 48, 46, 48, 48]⟩, ⟨#[48]⟩, ⟨#[56, 48, 46, 48, 48]⟩] (w.alloc (.cells #[.slice none 0 0] 26)) 9 (by simp)
    rw [show (w.alloc (.cells #[.slice none 0 0] 26)).heap.size = w.heap.size + 1 from by simp] at h
    exact h
  rw [ag7, chk7]
  rintro e w1 ⟨rfl, hb1⟩
  have hB1 := bnext (show Below w.heap.size w _ by repeat (first | with_reducible assumption | with_reducible apply bdrew | with_reducible apply pw_below_drewN | with_reducible refine below_alloc ?_ _)) hb1
  have hz1 : w.heap.size + 1 < w1.heap.size := by have := hb1.size; simp at this; omega
  have HK1 : Hid (BookIs w1 w.heap.size []) := Lib.hid (book_below (book_below HK0.out (below_alloc (Below.refl _ _) _)) hb1)
  clear hb1
  go_wp2_with fail
  refine (add_book w.heap.size [] o7 _ (book_below HK1.out (below_alloc (Below.refl _ _) _)) (by simp) sorted0).mono ?_
  rintro e w2 ⟨rfl, hg2, l2, hk2, _, hy2⟩
  have hl2 := putNil l2 _ (hy2 (by decide))
  subst hl2
  have hB2 : Below w.heap.size w w2 := bgrown (show Below w.heap.size w _ by repeat (first | with_reducible assumption | with_reducible apply bdrew | with_reducible apply pw_below_drewN | with_reducible refine below_alloc ?_ _)) hg2 (Nat.le_refl _)
  have hz2 : w1.heap.size < w2.heap.size := by have := hg2.size; simp at this; omega
  have n1 : ¬ (w1.heap.size = w.heap.size) := by omega
  have hp2 : w2.heap[w1.heap.size]? = some (.cells #[.int .i64 7, .int .i64 2, .int .i64 5000, .int .i64 0, .int .i64 8000] 29) := (hg2.block w1.heap.size (by simp) (fun e => n1 (by injection e))).trans (blk_new _ _)
  have HP2 := Lib.hid hp2
  have HK2 := Lib.hid hk2
  rw [show addBE [] o7 = 0 from by decide]
  clear hy2 hk2 hp2 hg2 HK1 HK0
  go_wp2_with fail
  refine (add_book w.heap.size [sOf o7] o9 _ HK2.out (by simp) (sorted1 _)).mono ?_
  rintro e w3 ⟨rfl, hg3, l3, hk3, _, hy3⟩
  have hl3 := putTwo l3 (hy3 (by decide))
  subst hl3
  have hB3 : Below w.heap.size w w3 := bgrown (show Below w.heap.size w _ by repeat (first | with_reducible assumption | with_reducible apply bdrew | with_reducible apply pw_below_drewN | with_reducible refine below_alloc ?_ _)) hg3 (Nat.le_refl _)
  have hz3 : w1.heap.size < w3.heap.size := by have := hg3.size; omega
  have hp3 : w3.heap[w1.heap.size]? = some (.cells #[.int .i64 7, .int .i64 2, .int .i64 5000, .int .i64 0, .int .i64 8000] 29) := (hg3.block w1.heap.size (by omega) (fun e => n1 (by injection e))).trans HP2.out
  have HP3 := Lib.hid hp3
  have HK3 := Lib.hid hk3
  rw [show addBE [sOf o7] o9 = 0 from by decide]
  clear hy3 hk3 hp3 hg3 HK2 HP2
  go_wp2_with fail
  refine (took_book w.heap.size [sOf o9, sOf o7] (some ⟨w3.heap.size, 0, none⟩) 1 [t7] _ (book_below HK3.out (below_alloc (Below.refl _ _) _)) (by simp) (C_new' k43 [t7] [.int .i64 7, .int .i64 0, .int .i64 0, .int .i64 0, .int .i64 4000, .int .i64 1000] _ _ _ rfl (by simp) (Reps.snoc (Reps.none _ _) (k43_mk _ t7) rfl)) (by simp)).mono ?_
  rw [took7e, took7l]
  rintro e w4 ⟨rfl, hg4, hk4⟩
  have hB4 : Below w.heap.size w w4 := bgrown (show Below w.heap.size w _ by repeat (first | with_reducible assumption | with_reducible apply bdrew | with_reducible apply pw_below_drewN | with_reducible refine below_alloc ?_ _)) hg4 (Nat.le_refl _)
  have hz4 : w1.heap.size < w4.heap.size := by have := hg4.size; simp at this; omega
  have hp4 : w4.heap[w1.heap.size]? = some (.cells #[.int .i64 7, .int .i64 2, .int .i64 5000, .int .i64 0, .int .i64 8000] 29) := (hg4.block w1.heap.size (by simp; omega) (fun e => n1 (by injection e))).trans (blk_alloc HP3.out _)
  have HP4 := Lib.hid hp4
  have HK4 := Lib.hid hk4
  clear hk4 hp4 hg4 HK3 HP3
  go_wp2_with fail
  refine (list_any w.heap.size [sOf o9, s7] w4 HK4.out (by simp)).mono ?_
  rintro e w5 ⟨v5, rfl, hcp5, hb5⟩
  have hB5 := bnext hB4 hb5
  have hz5 : w1.heap.size < w5.heap.size := by have := hb5.size; omega
  have HK5 := Lib.hid (book_below HK4.out hb5)
  have HP5 := Lib.hid (blk_below HP4.out hb5)
  obtain ⟨A5, c5, rfl, _, _, _, _⟩ := own_C hcp5 rfl
  obtain ⟨hC5, hc5, hh⟩ := own_row hcp5 rfl
  obtain ⟨h, rfl, hh1, hh2⟩ := hh (by simp)
  have Z : Hid (∀ W, Below w5.heap.size w5 W → W.cell? ⟨h, 0, none⟩ = some (.int .i64 9) ∧ W.cell? ⟨h, 1, none⟩ = some (.int .i64 1) ∧ W.cell? ⟨h, 2, none⟩ = some (.int .i64 0) ∧ W.cell? ⟨h, 3, none⟩ = some (.int .i64 1000) ∧ W.cell? ⟨h, 4, none⟩ = some (.int .i64 0) ∧ W.cell? ⟨h, 5, none⟩ = some (.int .i64 0) ∧ W.cell? ⟨h, 6, none⟩ = some (.int .i64 0) ∧ W.cell? ⟨h, 7, none⟩ = some (.int .i64 7) ∧ W.cell? ⟨h, 8, none⟩ = some (.int .i64 2) ∧ W.cell? ⟨h, 9, none⟩ = some (.int .i64 5000) ∧ W.cell? ⟨h, 10, none⟩ = some (.int .i64 0) ∧ W.cell? ⟨h, 11, none⟩ = some (.int .i64 8000) ∧ W.cell? ⟨h, 12, none⟩ = some (.int .i64 4000) ∧ W.cell? ⟨h, 13, none⟩ = some (.int .i64 1000)) := Lib.hid (fun W hW => by
    have z : ∀ (j : Nat) (u : Value), ([sOf o9, s7].flatMap cellsS)[j]? = some u → W.cell? ⟨h, j, none⟩ = some u := fun j u hj => (hW.cell (p := ⟨h, j, none⟩) hh2).trans (row_cell hcp5 j u hj).1
    exact ⟨z 0 _ rfl, z 1 _ rfl, z 2 _ rfl, z 3 _ rfl, z 4 _ rfl, z 5 _ rfl, z 6 _ rfl, z 7 _ rfl, z 8 _ rfl, z 9 _ rfl, z 10 _ rfl, z 11 _ rfl, z 12 _ rfl, z 13 _ rfl⟩)
  simp only [List.length_cons, List.length_nil] at hc5
  clear hcp5 hC5 hb5 HK4 HP4
  have nh : ¬ (h = w.heap.size) := by omega
  have nh2 : ¬ (h = w1.heap.size) := by omega
  have hb55 := Below.refl w5.heap.size w5
  obtain ⟨z0, z1, z2, z3, z4, z5, z6, z7, z8, z9, z10, z11, z12, z13⟩ := Z.out _ hb55
  go_wp2_with fail
  refine (order_State_Left.calls 7 2 5000 0 8000 4000 1000 _ _ left7).mono ?_
  rintro e w6 ⟨rfl, hb6⟩
  have hb56 := bnext hb55 hb6
  clear z0 z1 z2 z3 z4 z5 z6 z7 z8 z9 z10 z11 z12 z13 hb6
  obtain ⟨z0, z1, z2, z3, z4, z5, z6, z7, z8, z9, z10, z11, z12, z13⟩ := Z.out _ hb56
  go_wp2_with fail
  refine (order_State_Over.calls 7 2 5000 0 8000 4000 1000 _ _ over7).mono ?_
  rintro e w7 ⟨rfl, hb7⟩
  have hb57 := bnext hb56 hb7
  clear z0 z1 z2 z3 z4 z5 z6 z7 z8 z9 z10 z11 z12 z13 hb7
  obtain ⟨z0, z1, z2, z3, z4, z5, z6, z7, z8, z9, z10, z11, z12, z13⟩ := Z.out _ hb57
  go_wp2_with fail
  refine (order_State_Ordered.calls 10 7 2 5000 0 8000 4000 1000 0 _ _ _ ord1).mono ?_
  rintro e w8 ⟨rfl, hb8⟩
  have hb58 := bnext hb57 hb8
  clear z0 z1 z2 z3 z4 z5 z6 z7 z8 z9 z10 z11 z12 z13 hb8
  obtain ⟨z0, z1, z2, z3, z4, z5, z6, z7, z8, z9, z10, z11, z12, z13⟩ := Z.out _ hb58
  go_wp2_with fail
  refine (order_State_Ordered.calls 10 9 1 0 1000 0 0 0 1239 _ _ _ ord2).mono ?_
  rintro e w9 ⟨rfl, hb9⟩
  have hb59 := bnext hb58 hb9
  clear z0 z1 z2 z3 z4 z5 z6 z7 z8 z9 z10 z11 z12 z13 hb9
  obtain ⟨z0, z1, z2, z3, z4, z5, z6, z7, z8, z9, z10, z11, z12, z13⟩ := Z.out _ hb59
  go_wp2_with fail
  refine (find_book w.heap.size [sOf o9, s7] 7 _ (book_below HK5.out hb59)).mono ?_
  rw [find7]
  unfold agS s7 o7
  rintro e w10 ⟨rfl, hb10⟩
  have hb510 := bnext hb59 hb10
  clear z0 z1 z2 z3 z4 z5 z6 z7 z8 z9 z10 z11 z12 z13 hb10
  obtain ⟨z0, z1, z2, z3, z4, z5, z6, z7, z8, z9, z10, z11, z12, z13⟩ := Z.out _ hb510
  go_wp2_with fail
  have hz10 : w5.heap.size ≤ w10.heap.size := hb510.size
  have HK10 : Hid (BookIs w10 w.heap.size [sOf o9, s7]) := Lib.hid (book_below HK5.out hb510)
  have HB10 : Below w.heap.size w w10 := bnext hB5 hb510
  have HP10 := Lib.hid (blk_below HP5.out hb510)
  have p0 : w10.cell? ⟨w1.heap.size, 0, none⟩ = some (.int .i64 7) := (blk_cell HP10.out 0).trans rfl
  have p1 : w10.cell? ⟨w1.heap.size, 1, none⟩ = some (.int .i64 2) := (blk_cell HP10.out 1).trans rfl
  have p2 : w10.cell? ⟨w1.heap.size, 2, none⟩ = some (.int .i64 5000) := (blk_cell HP10.out 2).trans rfl
  have p3 : w10.cell? ⟨w1.heap.size, 3, none⟩ = some (.int .i64 0) := (blk_cell HP10.out 3).trans rfl
  have p4 : w10.cell? ⟨w1.heap.size, 4, none⟩ = some (.int .i64 8000) := (blk_cell HP10.out 4).trans rfl
  have hlh : h < w10.heap.size := by omega
  have hl1 : w1.heap.size < w10.heap.size := by omega
  clear z0 z1 z2 z3 z4 z5 z6 hb56 hb57 hb58 hb59 HP10 Z HP5
  go_region_held3 (fun w' => w'.cell? ⟨h, 7, none⟩ = some (.int .i64 7) ∧ w'.cell? ⟨h, 8, none⟩ = some (.int .i64 2) ∧ w'.cell? ⟨h, 9, none⟩ = some (.int .i64 5000) ∧ w'.cell? ⟨h, 10, none⟩ = some (.int .i64 0) ∧ w'.cell? ⟨h, 11, none⟩ = some (.int .i64 8000) ∧ w'.cell? ⟨h, 12, none⟩ = some (.int .i64 4000) ∧ w'.cell? ⟨h, 13, none⟩ = some (.int .i64 1000) ∧ w'.cell? ⟨w10.heap.size, 0, none⟩ = some (.int .i64 7) ∧ w'.cell? ⟨w10.heap.size, 1, none⟩ = some (.int .i64 2) ∧ w'.cell? ⟨w10.heap.size, 2, none⟩ = some (.int .i64 5000) ∧ w'.cell? ⟨w10.heap.size, 3, none⟩ = some (.int .i64 0) ∧ w'.cell? ⟨w10.heap.size, 4, none⟩ = some (.int .i64 8000) ∧ w'.cell? ⟨w10.heap.size, 5, none⟩ = some (.int .i64 4000) ∧ w'.cell? ⟨w10.heap.size, 6, none⟩ = some (.int .i64 1000) ∧ w'.cell? ⟨w1.heap.size, 0, none⟩ = some (.int .i64 7) ∧ w'.cell? ⟨w1.heap.size, 1, none⟩ = some (.int .i64 2) ∧ w'.cell? ⟨w1.heap.size, 2, none⟩ = some (.int .i64 5000) ∧ w'.cell? ⟨w1.heap.size, 3, none⟩ = some (.int .i64 0) ∧ w'.cell? ⟨w1.heap.size, 4, none⟩ = some (.int .i64 8000) ∧ Hid (BookIs w' w.heap.size [sOf o9, s7]) ∧ w10.heap.size < w'.heap.size ∧ Below w.heap.size w w')
    (refine ⟨?_, ?_, ?_, ?_, ?_, ?_, ?_, ?_, ?_, ?_, ?_, ?_, ?_, ?_, ?_, ?_, ?_, ?_, ?_, ?_, ?_, ?_⟩ <;> first | with_reducible assumption | exact (show Below w.heap.size w _ by repeat (first | with_reducible assumption | with_reducible apply bdrew | with_reducible apply pw_below_drewN | with_reducible refine below_alloc ?_ _)) | exact bdrew (below_alloc HB10 _) | exact Lib.hid (book_below HK10.out (bdrew (below_alloc (Below.refl _ _) _))) | (go_keep; done) | (rw [World.cell?_alloc_lt _ _ _ (by assumption)]; assumption) | (rw [hc12 _ _ (by first | omega | (simp; omega))]; first | assumption | (go_keep; done) | (rw [hc11 _ _ (by first | (simp; done) | (simp; omega)) (by omega)]; first | assumption | (go_keep; done))) | (rw [hc11 _ _ (by first | (simp; done) | (simp; omega)) (by omega)]; first | assumption | (go_keep; done)) | (simp; omega))
    (first
      | (go_at_call 10; refine (add_book w.heap.size [sOf o9, s7] o7 _ (book_below HK10.out (bdrew (below_alloc (Below.refl _ _) _))) (by simp) sortedEx).mono ?_; rw [twice7]; rintro e w11 ⟨rfl, hg11, l11, hk11, hno11, _⟩; have he11 := hno11 (by decide); subst he11; have hB11 : Below w.heap.size w w11 := bgrown (bdrew (below_alloc HB10 _)) hg11 (Nat.le_refl _); have hc11 := gcell hg11; have HK11 := Lib.hid hk11; have hz11 : w10.heap.size < w11.heap.size := (by have := hg11.size; simp at this; omega); clear hg11 hk11 hno11)
      | (go_at_call 8; refine (cancel_miss w.heap.size [sOf o9, s7] 5 _ (by first | exact HK11.out | exact book_below HK11.out (bdrew (Below.refl _ _))) miss5).mono ?_; rintro e w12 ⟨rfl, hb12⟩; have hB12 := bnext (show Below w.heap.size w _ by repeat (first | with_reducible assumption | with_reducible apply bdrew | with_reducible apply pw_below_drewN | with_reducible refine below_alloc ?_ _)) hb12; obtain ⟨hc12, _⟩ := bcell hb12; have HK12 := Lib.hid (book_below HK11.out hb12); have hz12 : w10.heap.size < w12.heap.size := (by have := hb12.size; (try simp at this); omega)))
  go_wp2
  go_ret
  exact ⟨rfl, hB12⟩
end Go.Proofs.YtfimheedecdaiaaDoor

/- OrderChecks, walked: true, whatever the order. Condition: the library's table of powers of ten reads as it is laid. -/
set_option linter.unusedVariables false
set_option linter.unusedSimpArgs false
namespace Go.Proofs.YtfimheedecdaiaaDoor
open Go Go.RowKit Go.Lib Go.Shelf Go.Proofs.YtfimheedecdaiaaDoorW.PrintWords Go.Proofs.YtfimheedecdaiaaDoorW.PrintLast Go.Proofs.YtfimheedecdaiaaDoorW.PrintMore Go.Proofs.YtfimheedecdaiaaDoor.Pr

theorem wrong_eq (id pr am ra tot : Int) : stipendlaw17_wrong.f 4 id pr am ra tot = some (checkE id pr am ra tot) := by
  have h3 : ∀ b : Bool, stipendlaw17_wrong.j3 1 b id pr am ra tot = some (if b = true then 50 else if am = 0 ∧ ra = 0 then 5 else 0) := by
    intro b
    simp only [stipendlaw17_wrong.j3]
    cases b <;> by_cases h1 : am = 0 <;> by_cases h2 : ra = 0 <;> simp [h1, h2]
  have h2 : ∀ b : Bool, stipendlaw17_wrong.j2 2 b id pr am ra tot = some (if b = true then 1 else if rateOk ra = false then 50 else if am = 0 ∧ ra = 0 then 5 else 0) := by
    intro b
    have hr : rateOk ra = (!(decide (ra < 0)) && !(decide (ra > 10000))) := by unfold rateOk; by_cases h1 : ra < 0 <;> by_cases h2 : 10000 < ra <;> simp [h1, h2] <;> omega
    simp only [stipendlaw17_wrong.j2, h3, hr]
    cases b <;> by_cases h1 : ra < 0 <;> by_cases h2 : ra > 10000 <;> simp [h1, h2]
  have h1 : ∀ b : Bool, stipendlaw17_wrong.j1 3 b id pr am ra tot = some (if b = true then 10 else if am < 0 ∨ tot < 0 then 1 else if rateOk ra = false then 50 else if am = 0 ∧ ra = 0 then 5 else 0) := by
    intro b
    simp only [stipendlaw17_wrong.j1, h2]
    cases b <;> by_cases h1 : am < 0 <;> by_cases h2 : tot < 0 <;> simp [h1, h2]
  have h0 : ∀ b : Bool, stipendlaw17_wrong.j0 4 b id pr am ra tot = some (if b = true then 1 else if (okA am && okA tot) = false then 10 else if am < 0 ∨ tot < 0 then 1 else if rateOk ra = false then 50 else if am = 0 ∧ ra = 0 then 5 else 0) := by
    intro b
    have ho : ∀ x : Int, okA x = (!(decide (x > 100000000000)) && !(decide (x < -100000000000))) := by intro x; unfold okA; by_cases h1 : x < -100000000000 <;> by_cases h2 : 100000000000 < x <;> simp [h1, h2] <;> omega
    simp only [stipendlaw17_wrong.j0, h1, ho]
    cases b <;> by_cases h1 : am > 100000000000 <;> by_cases h2 : am < -100000000000 <;> by_cases h3 : tot > 100000000000 <;> by_cases h4 : tot < -100000000000 <;> simp [h1, h2, h3, h4]
  unfold stipendlaw17_wrong.f checkE
  simp only [h0]
  by_cases h1 : id < 1 <;> by_cases h2 : id > 999999 <;> by_cases h3 : pr < 0 <;> by_cases h4 : pr > 999 <;> simp [h1, h2, h3, h4]

theorem itoa_any (n : Int) (h0 : -999999999 ≤ n) (h1 : n ≤ 999999999) (w : World) (htab : Lib.TabIs Tryd.prog w "internal/strconv.uint64pow10" .u64 Lib.pow10Tab) :
    Calls Tryd.prog 18 #[.int .i64 n] w fun e w' => e = .returned (.string (bL (Lib.itoa n))) ∧ Below w.heap.size w w' := by
  refine (Tryd.strconv_Itoa n (by omega) (by omega) w htab).mono ?_
  rintro e w' ⟨rfl, k, os, rfl⟩
  exact ⟨rfl, below_growN w k os⟩
end Go.Proofs.YtfimheedecdaiaaDoor
