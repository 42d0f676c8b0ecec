/- slices.Insert of one state into a list without room: a new row. -/
import Derived.Test.YtkeokccafbjmoaaCopyK
set_option linter.unusedVariables false
set_option linter.unusedSimpArgs false
namespace Go.Proofs.Ytkeokccafbjmoaa
open Go Go.RowKit Go.Lib Go.Shelf Go.Proofs.YtkeokccafbjmoaaW.PrintWords Go.Proofs.YtkeokccafbjmoaaW.PrintLast Go.Proofs.YtkeokccafbjmoaaW.PrintMore Go.Proofs.Ytkeokccafbjmoaa.Pr

theorem cells_some {w : World} {ad : Addr} {l : List S31} (hr : Kd.C k31 w (some ad) l.length l) : ∀ j u, (l.flatMap cellsS)[j]? = some u → w.cell? (ad.add j) = some u := by
  intro j u hj
  by_cases hn : 0 < l.length
  · obtain ⟨ad', e, h⟩ := flat_cells flatS hr hn
    cases e
    exact h j u hj
  · have : l = [] := List.eq_nil_of_length_eq_zero (by omega)
    subst this
    simp at hj

set_option maxHeartbeats 1600000 in
set_option maxRecDepth 100000 in
theorem insert_end (A : Option Addr) (l : List S31) (s : S31) (vb : Nat) (w : World) (hr : Kd.C k31 w A l.length l) (hl : l.length ≤ 1000)
    (hv : ∀ j v, (cellsS s)[j]? = some v → w.cell? ⟨vb, j, none⟩ = some v) :
    Calls Try.prog 17 #[.slice A l.length l.length, .int .i64 (l.length : Int), .slice (some ⟨vb, 0, none⟩) 1 1] w fun e w' => ∃ v, e = .returned v ∧ w'.ownsRow w.heap.size 31 7 v (l.length + 1) ((l ++ [s]).flatMap cellsS) ∧ Below w.heap.size w w' := by
  obtain ⟨i0, hi0, hz0, hzs, hzb⟩ := info_parts infoS
  have HV := Lib.hid hv
  clear hv
  have hlI : (l.length : Int) ≤ 1000 := by omega
  cases A with
  | none =>
    have hn := nil_C hr
    subst hn
    go_enter Try.func17, Try.ntmps17
    go_wp2_with (at_builtin; refine wpList_append_grows _ rfl _ _ 32 rfl 31 i0 _ 7 56 Try.underlying32 hi0 hz0 hzs hzb rfl (by decide) none 0 0 [] rfl (fun _ => ⟨rfl, rfl⟩) rfl (fun b h => by cases h) ⟨vb, 0, none⟩ 1 1 (cellsS s) rfl rfl ?qc1 ?qc2 (by decide) (by decide) (by decide) ?_)
    case qc1 => intro j u hj; rw [Addr.add_lit, Nat.zero_add]; exact HV.out j u hj
    case qc2 => exact flatS.one s
    intro v' w1 hown hgrow
    go_wp2
    go_ret
    exact ⟨v', rfl, by simpa using hown, (Below.refl _ w).grown hgrow (by simp) (by simp)⟩
  | some ad =>
    have HC := Lib.hid (cells_some hr)
    clear hr
    go_enter Try.func17, Try.ntmps17
    go_wp2_with (at_builtin; refine wpList_append_grows _ rfl _ _ 32 rfl 31 i0 _ 7 56 Try.underlying32 hi0 hz0 hzs hzb rfl (by decide) (some ad) l.length l.length (l.flatMap cellsS) rfl (fun h => by cases h) (flat_length flatS l) ?qc0 ⟨vb, 0, none⟩ 1 1 (cellsS s) rfl rfl ?qc1 ?qc2 (by omega) ?qc3 ?qc4 ?_)
    case qc0 => intro b hb; cases hb; exact HC.out
    case qc1 => intro j u hj; rw [Addr.add_lit, Nat.zero_add]; exact HV.out j u hj
    case qc2 => exact flatS.one s
    case qc3 => unfold maxLen; omega
    case qc4 => omega
    intro v' w1 hown hgrow
    go_wp2
    go_ret
    exact ⟨v', rfl, by simpa using hown, (Below.refl _ w).grown hgrow (by simp) (by simp)⟩
#print axioms insert_end

theorem addr_add_add (a : Addr) (i j : Nat) : (a.add i).add j = a.add (i + j) := by
  unfold Addr.add
  by_cases h1 : i = 0 <;> by_cases h2 : j = 0 <;> simp [h1, h2, Nat.add_assoc]
theorem splice_at {α : Type} (X Z cs : List α) : splice (X ++ Z) X.length cs = X ++ (cs ++ Z.drop cs.length) := by
  unfold splice
  rw [List.take_left, List.drop_append]
  simp
theorem splice2_take {α : Type} (X Z cs D : List α) (a k n : Nat) (ha : X.length = a) (hk : a + cs.length = k) (hn : n = k + D.length) : (splice (splice (X ++ Z) a cs) k D).take n = X ++ (cs ++ D) := by
  subst ha hk hn
  rw [splice_at, ← List.append_assoc, ← List.length_append, splice_at]
  rw [← List.append_assoc, ← List.append_assoc, ← List.length_append, List.take_left]
theorem flat_take {α : Type} {d : Kd α} {f : α → List Value} (h : FlatKd d f) : ∀ (l : List α) (j : Nat), (l.flatMap f).take (j * d.sz) = (l.take j).flatMap f
  | l, 0 => by simp
  | [], j + 1 => by simp
  | x :: r, j + 1 => by
    rw [List.flatMap_cons, show (j + 1) * d.sz = (f x).length + j * d.sz from by rw [h.len, Nat.add_mul, Nat.one_mul, Nat.add_comm], List.take_append, List.take_of_length_le (by omega), Nat.add_sub_cancel_left, flat_take h r j]
    rfl
theorem zlen (z : Array Value) (n : Nat) : (Builtin.zeroCells z n).toList.length = n * z.size := by
  rw [Array.length_toList]
  exact size_zeroCells z n
theorem growS {m : Nat} (hm : m ≤ 1001) (hm0 : 0 < m) : Builtin.nextslicecap m (m - 1) * 56 ≤ 281474976710656 := growslice_fits (by omega) (by omega)

set_option maxHeartbeats 3200000 in
set_option maxRecDepth 100000 in
theorem insert_mid (ad : Addr) (l : List S31) (i : Nat) (s : S31) (vb : Nat) (w : World) (hi : i < l.length) (hr : Kd.C k31 w (some ad) l.length l) (hl : l.length ≤ 1000)
    (hv : ∀ j v, (cellsS s)[j]? = some v → w.cell? ⟨vb, j, none⟩ = some v) :
    Calls Try.prog 17 #[.slice (some ad) l.length l.length, .int .i64 (i : Int), .slice (some ⟨vb, 0, none⟩) 1 1] w fun e w' => ∃ v, e = .returned v ∧ w'.ownsRow w.heap.size 31 7 v (l.length + 1) ((l.take i ++ s :: l.drop i).flatMap cellsS) ∧ Below w.heap.size w w' := by
  obtain ⟨i0, hi0, hz0, hzs, hzb⟩ := info_parts infoS
  have hsz : (Try.prog.info? 31).map (·.size) = some 7 := by rw [hi0]; simp [hzs]
  have hC := cells_some hr
  have hlt := (Kd.C_lt hr (by omega) (by decide))
  have hF : (l.flatMap cellsS).length = l.length * 7 := flat_length flatS l
  have hFt : ((l.flatMap cellsS).take (i * 7)).length = i * 7 := by rw [List.length_take]; omega
  have hold : (Builtin.firstCells i0.size i (.slice (some ad) i l.length)).run Try.prog w.drew = .ok ((l.flatMap cellsS).take (i * 7)).toArray w.drew := by
    rw [hzs]
    refine run_firstCells_some w.drew 7 i ad i l.length _ hFt (fun j v hj => ?_)
    rw [List.getElem?_take] at hj
    split at hj
    · exact hC j v hj
    · cases hj
  have hkk : (l.length : Int) + 1 - (i : Int) = ((l.length + 1 - i : Nat) : Int) := by omega
  have hik : i + (l.length + 1 - i) = l.length + 1 := by omega
  have hrz : ∀ ty, (Builtin.append_ #[32, 3] ty #[.slice (some ad) i l.length, .int .i64 ((l.length : Int) + 1 - (i : Int))]).run Try.prog w =
      .ok (.slice (some ⟨w.heap.size, 0, none⟩) (l.length + 1) (grownCap w (l.length + 1) l.length 31)) (w.drew.alloc (.cells (((l.flatMap cellsS).take (i * 7)).toArray ++ Builtin.zeroCells (Value.agg #[.int .i64 0, .int .i64 0, .int .i64 0, .int .i64 0, .int .i64 0, .int .i64 0, .int .i64 0]).cells (l.length + 1 - i) ++ Builtin.zeroCells (Value.agg #[.int .i64 0, .int .i64 0, .int .i64 0, .int .i64 0, .int .i64 0, .int .i64 0, .int .i64 0]).cells (grownCap w (l.length + 1) l.length 31 - (l.length + 1))) 31)) := fun ty => by
    have h := Lib.run_append_grow_zeros w 32 3 ty 31 i0 _ .i64 .i64 Try.underlying32 Try.underlying3 hi0 hz0 (some ad) i l.length ((l.flatMap cellsS).take (i * 7)) hold (l.length + 1 - i) (by omega) (by omega) (by omega) (by omega) (by rw [hzb]; omega) (by rw [hzb, hik]; exact growS (m := l.length + 1) (by omega) (by omega))
    rw [hik] at h
    rw [hkk]
    exact h
  obtain ⟨G, hG⟩ : ∃ G, G = grownCap w (l.length + 1) l.length 31 := ⟨_, rfl⟩
  have hG1 : l.length + 1 ≤ G := by rw [hG]; exact grownCap_ge _ _ _ _
  have hG2 : G ≤ maxLen := by rw [hG]; exact grownCap_le_maxLen w _ _ _ (by unfold maxLen; omega)
  rw [← hG] at hrz
  obtain ⟨ROW, hROW⟩ : ∃ ROW : List Value, ROW = (l.flatMap cellsS).take (i * 7) ++ ((Builtin.zeroCells (Value.agg #[.int .i64 0, .int .i64 0, .int .i64 0, .int .i64 0, .int .i64 0, .int .i64 0, .int .i64 0]).cells (l.length + 1 - i)).toList ++ (Builtin.zeroCells (Value.agg #[.int .i64 0, .int .i64 0, .int .i64 0, .int .i64 0, .int .i64 0, .int .i64 0, .int .i64 0]).cells (G - (l.length + 1))).toList) := ⟨_, rfl⟩
  have hRl : ROW.length = G * 7 := by
    rw [hROW, List.length_append, List.length_append, hFt, zlen, zlen]
    show i * 7 + ((l.length + 1 - i) * 7 + (G - (l.length + 1)) * 7) = _
    omega
  have hRA : (((l.flatMap cellsS).take (i * 7)).toArray ++ Builtin.zeroCells (Value.agg #[.int .i64 0, .int .i64 0, .int .i64 0, .int .i64 0, .int .i64 0, .int .i64 0, .int .i64 0]).cells (l.length + 1 - i) ++ Builtin.zeroCells (Value.agg #[.int .i64 0, .int .i64 0, .int .i64 0, .int .i64 0, .int .i64 0, .int .i64 0, .int .i64 0]).cells (G - (l.length + 1))) = ROW.toArray := by
    rw [hROW]
    apply Array.ext'
    simp
  rw [hRA] at hrz
  have HV := Lib.hid hv
  have HC := Lib.hid hC
  have HR := Lib.hid hROW
  have HRL := Lib.hid hRl
  have HF := Lib.hid hF
  have HH := Lib.hid (And.intro hG1 hG2)
  have hlI : (l.length : Int) ≤ 1000 := by omega
  have hiI : (i : Int) < (l.length : Int) := by omega
  have hGI : (l.length : Int) + 1 ≤ (G : Int) := by omega
  have h4 : (l.length : Int) < (l.length : Int) + 1 := by omega
  clear hROW hRA hRl hv hC hF hr hold hFt hkk hik hG1 hG2 hG
  have g1 : ((w.alloc (.cells ROW.toArray 31)).drew).heap[w.heap.size]? = some (.cells ROW.toArray 31 (0, 0)) := heap_alloc_new w _
  have n1 : (cellsS s).length = Nat.min 1 (l.length + 1 - i) * 7 := by
    show 7 = _
    have : Nat.min 1 (l.length + 1 - i) = 1 := by show min 1 (l.length + 1 - i) = 1; omega
    rw [this]
  have src1 : ∀ j u, (cellsS s)[j]? = some u → ((w.alloc (.cells ROW.toArray 31)).drew).cell? ((⟨vb, 0, none⟩ : Addr).add j) = some u := by
    intro j u hj
    rw [Addr.add_lit, Nat.zero_add]
    exact Lib.cell?_alloc_some _ (HV.out j u hj)
  have fit1 : i * 7 + (cellsS s).length ≤ ROW.length := by
    rw [HRL.out]
    show i * 7 + 7 ≤ _
    have := HH.out.1
    omega
  have b1 : Below w.heap.size w ((w.alloc (.cells ROW.toArray 31)).drew) := bdrew (below_alloc (Below.refl _ _) _)
  have hmin : Nat.min 1 (l.length + 1 - i) = 1 := by show min 1 (l.length + 1 - i) = 1; omega
  obtain ⟨W2, hcp1, HG2, hB2, ho2⟩ : ∃ W2, (Builtin.copy_ #[32, 32] 3 #[.slice (some ⟨w.heap.size, i * 7, none⟩) (l.length + 1 - i) (G - i), .slice (some ⟨vb, 0, none⟩) 1 1]).run Try.prog ((w.alloc (.cells ROW.toArray 31)).drew) = .ok (goInt 1) W2 ∧ Hid (W2.heap[w.heap.size]? = some (.cells (splice ROW (i * 7) (cellsS s)).toArray 31 (0, 0))) ∧ Below w.heap.size w W2 ∧ w.heap.size < W2.heap.size := by
    have h := run_copy_rowK (P := Try.prog) ((w.alloc (.cells ROW.toArray 31)).drew) 32 32 3 31 7 w.heap.size (i * 7) (l.length + 1 - i) (G - i) ⟨vb, 0, none⟩ 1 1 ROW.toArray 31 (cellsS s) Try.underlying32 hsz g1 n1 src1 (by simpa using fit1) (flatS.one s)
    rw [hmin] at h
    refine ⟨_, h, (show _ = _ by simpa [splice] using setRow_heap _ w.heap.size _ _ _ _ g1), below_setRow b1 (Nat.le_refl _) _, by simp [World.setRow]⟩
  clear g1 src1 b1 n1 fit1 hmin
  have hdrop : (l.drop i).flatMap cellsS = (l.flatMap cellsS).drop (i * 7) := (flat_drop flatS l i).symm
  have n2 : ((l.drop i).flatMap cellsS).length = Nat.min (l.length - i) (l.length + 1 - (i + 1)) * 7 := by
    rw [flat_length flatS, List.length_drop]
    have : Nat.min (l.length - i) (l.length + 1 - (i + 1)) = l.length - i := by show min _ _ = _; omega
    rw [this]
    rfl
  have src2 : ∀ j u, ((l.drop i).flatMap cellsS)[j]? = some u → W2.cell? ((ad.add (i * 7)).add j) = some u := by
    intro j u hj
    rw [hdrop, List.getElem?_drop] at hj
    have h := HC.out _ u hj
    rw [addr_add_add]
    exact (hB2.cell (World.block_lt_of_cell? _ _ h)).trans h
  have hsl : (splice ROW (i * 7) (cellsS s)).length = G * 7 := by
    rw [length_splice _ _ _ (by rw [HRL.out]; show i * 7 + 7 ≤ _; have := HH.out.1; omega), HRL.out]
  have fit2 : (i + 1) * 7 + ((l.drop i).flatMap cellsS).length ≤ (splice ROW (i * 7) (cellsS s)).length := by
    rw [hsl, flat_length flatS, List.length_drop]
    show (i + 1) * 7 + (l.length - i) * 7 ≤ _
    have := HH.out.1
    omega
  have hw1 : IntKind.i64.wrap ((i : Int) + 1) = (i : Int) + 1 := by rw [IntKind.wrap_i64]; omega
  have hb1 : (0 : Int) ≤ (i : Int) + 1 := by omega
  have hb3 : (i : Int) + 1 ≤ (l.length : Int) + 1 := by omega
  have htn : ((i : Int) + 1).toNat = i + 1 := by omega
  have hGi1 : ¬ (G = i + 1) := by have := HH.out.1; omega
  have hGi2 : ¬ (l.length = i) := by omega
  have hb4 : (i : Int) ≤ (l.length : Int) := by omega
  have hb5 : (0 : Int) ≤ (i : Int) := by omega
  have N2 := Lib.hid n2
  have S2 := Lib.hid src2
  have F2 := Lib.hid fit2
  have HSL := Lib.hid hsl
  clear n2 src2 fit2 hsl hdrop
  go_enter Try.func17, Try.ntmps17
  go_wp2_with (at_builtin; refine Lib.wpList_append_run _ rfl _ _ _ _ rfl _ _ rfl rfl _ _ (hrz _) ?_)
  go_region_law (refine step_copy_spliceK rfl (.tmp 50) (.tmp 53) 32 32 rfl 31 7 Try.underlying32 hsz (ad.add (i * 7)) (l.length + 1 - (i + 1)) (G - (i + 1)) (l.length - i) (l.length - i) w.heap.size ((i + 1) * 7) (by simp [Act.eval, Act.put]) (by simp [Act.eval, Act.put]) (splice ROW (i * 7) (cellsS s)) 31 HG2.out ((l.drop i).flatMap cellsS) N2.out S2.out F2.out (flat_one flatS _) w.heap.size w (bdrew hB2) (Nat.le_refl _) ?_; intro w4 hg4 hb4)
  go_wp2
  go_ret
  refine ⟨_, rfl, ⟨?_, Or.inr ⟨w.heap.size, G, _, rfl, Nat.le_refl _, hg4.out, HH.out.1, HH.out.2, ?_, ?_⟩⟩, hb4⟩
  · rw [flat_length flatS]
    show _ * 7 = _ * 7
    congr 1
    simp
    omega
  · have h := F2.out
    rw [HSL.out] at h
    rw [List.size_toArray, length_splice _ _ _ (by rw [HSL.out]; exact h), HSL.out]
  · rw [HR.out]
    show List.take _ (splice (splice _ _ _) _ _) = _
    rw [splice2_take ((l.flatMap cellsS).take (i * 7)) _ (cellsS s) _ (i * 7) ((i + 1) * 7) _ (by rw [List.length_take, HF.out]; omega) (by show i * 7 + 7 = _; omega) (by rw [flat_length flatS, List.length_drop]; show (l.length + 1) * 7 = (i + 1) * 7 + (l.length - i) * 7; omega)]
    rw [List.flatMap_append, List.flatMap_cons]
    congr 1
    have h := flat_take flatS l i
    exact h.symm ▸ rfl
#print axioms insert_mid

theorem insert_any (A : Option Addr) (l : List S31) (i : Nat) (s : S31) (vb : Nat) (w : World) (hi : i ≤ l.length) (hr : Kd.C k31 w A l.length l) (hl : l.length ≤ 1000)
    (hv : ∀ j v, (cellsS s)[j]? = some v → w.cell? ⟨vb, j, none⟩ = some v) :
    Calls Try.prog 17 #[.slice A l.length l.length, .int .i64 (i : Int), .slice (some ⟨vb, 0, none⟩) 1 1] w fun e w' => ∃ v, e = .returned v ∧ w'.ownsRow w.heap.size 31 7 v (l.length + 1) ((l.take i ++ s :: l.drop i).flatMap cellsS) ∧ Below w.heap.size w w' := by
  by_cases h : i < l.length
  · cases A with
    | none =>
      have := nil_C hr
      subst this
      simp at h
    | some ad => exact insert_mid ad l i s vb w h hr hl hv
  · have e : i = l.length := by omega
    subst e
    rw [List.take_length, List.drop_length]
    exact insert_end A l s vb w hr hl hv
#print axioms insert_any
end Go.Proofs.Ytkeokccafbjmoaa
