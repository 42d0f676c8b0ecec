import Derived.Test.YtfimheedecdaiaaDoorPr0
import Derived.WalkMore
import Derived.ScopeJumps
import Derived.Lib.Hide
import Derived.Test.YtfimheedecdaiaaDoorPr1
import Derived.Test.YtfimheedecdaiaaDoorPr2
import Derived.Test.YtfimheedecdaiaaDoorPr3
import Derived.Test.YtfimheedecdaiaaDoorPr4
import Derived.Test.YtfimheedecdaiaaDoorPr5
import Derived.Test.YtfimheedecdaiaaDoorPr6
import Derived.Test.YtfimheedecdaiaaDoorPr7
import Derived.Test.YtfimheedecdaiaaDoorShelf
import Derived.Shelf.Strconv.Itoa3
import Derived.Lib.AppendIntMem
import Derived.WalkKit
import Derived.Laws.Strings
import Derived.Laws.Concat
import Derived.Deep.QuietTactic
import Derived.BigQuiet
/- Small words used by all walks of this claim: values made in a call, the greater and the lesser of two, a scope with one label. -/
set_option linter.unusedVariables false
set_option linter.unusedSimpArgs false
namespace Go.Proofs.YtfimheedecdaiaaDoor
open Go.RowKit Go.Proofs.YtfimheedecdaiaaDoorW.PrintWords Go.Proofs.YtfimheedecdaiaaDoorW.PrintLast Go.Proofs.YtfimheedecdaiaaDoorW.PrintMore

theorem max2_mx (k k' : IntKind) (x y : Int) : Builtin.max2 (.int k x) (.int k' y) = pure (.int k (mx x y)) := max2_int k k' x y
theorem min2_mn (k k' : IntKind) (x y : Int) : Builtin.min2 (.int k x) (.int k' y) = pure (.int k (mn x y)) := min2_int k k' x y

/-- A slice literal of whole numbers, just laid. -/
theorem C_int_new (k : IntKind) (xs : List Int) (w : World) (t : Nat) (hn : xs.length ≤ 9223372036854775807) : Kd.C (Kd.int k) (w.alloc (.cells (xs.map (Value.int k)).toArray t)) (some ⟨w.heap.size, 0, none⟩) xs.length xs := by
  refine ⟨rfl, hn, fun _ => ⟨_, rfl, fun j p hj => ⟨[.int k p], rfl, rfl, fun i u hu => ?_⟩⟩⟩
  have hi : i = 0 := by
    rcases i with _ | i
    · rfl
    · simp at hu
  subst hi
  simp at hu
  subst hu
  have hj' := List.getElem?_eq_some_iff.1 hj
  show (w.alloc _).cell? ((⟨w.heap.size, 0, none⟩ : Addr).add (j * 1 + 0)) = _
  rw [add_plain, World.cell?_alloc_new]
  simp [hj]

/-- A scope with one label on its way: what stands behind the label is walked once, in any state of J. -/
theorem wp_scope_loop {P : Program} {c B : Code} {Q : Exit → Act → World → Prop} {a : Act} {w : World} (l : Nat) (J : Act → World → Prop) (μ : Act → World → Nat) (hf : findLabel c l = some (.seq .skip B))
    (pass : ∀ a w, J a w → B.wp P (Exit.jump l (fun a' w' => J a' w' ∧ μ a' w' < μ a w) Q) a w)
    (first : Hid (∀ a w, J a w → B.wp P (Exit.jump l J Q) a w) → c.wp P (Exit.jump l J Q) a w) : (Code.scope c).wp P Q a w := by
  refine wp_scope_jumps l J μ hf (first (Lib.hid fun a w h => Code.wp_mono ?_ (pass a w h))) (fun a w h => wp_seq (wp_skip (pass a w h)))
  intro e a w h
  cases e <;> first | exact h | exact ⟨h.1, h.2.1⟩

/-- A variable's block behind an append to an elder row. -/
theorem cell_kept_new {W w2 : World} {cs : Array Value} {T : TypeId} {v : Value} (hg : (W.alloc (.cells cs T)).grownBy w2 v.ownBlock) (hlt : ∀ k, v.ownBlock = some k → k < W.heap.size) (j : Nat) (x : Value) (hx : cs[j]? = some x) :
    w2.cell? ⟨W.heap.size, j, none⟩ = some x := by
  refine cell_grown hg (by rw [World.cell?_alloc_new]; exact hx) ?_
  intro h
  exact Nat.lt_irrefl _ (hlt _ h.symm)
theorem R_lt {α : Type} {d : Kd α} {e : Nat} {w : World} {base : Nat} {ok : Nat → Prop} {v : Value} {xs : List α} (h : d.R e w base ok v xs) : ∀ k, v.ownBlock = some k → k < w.heap.size := fun k hk => by
  obtain ⟨inner, ho⟩ := Kd.R_own h
  exact own_lt ho k hk

/-- All old cells and all old marks read as before. -/
theorem bcell {W w1 : World} (hb : Below W.heap.size W w1) : (∀ b o, b < W.heap.size → w1.cell? ⟨b, o, none⟩ = W.cell? ⟨b, o, none⟩) ∧ (∀ b o, b < W.heap.size → w1.frozen? ⟨b, o, none⟩ = W.frozen? ⟨b, o, none⟩) :=
  ⟨fun b o h => hb.cell (p := ⟨b, o, none⟩) h, fun b o h => hb.frozen (p := ⟨b, o, none⟩) h⟩
theorem bnext {w W w1 : World} (h : Below w.heap.size w W) (k : Below W.heap.size W w1) : Below w.heap.size w w1 := h.trans (k.mono h.size)
theorem bdrew {w W : World} (h : Below w.heap.size w W) : Below w.heap.size w W.drew := ⟨h.os, h.tape, h.output, h.size, h.block⟩
/-- A slice literal of strings, just laid. -/
theorem C_str_new (xs : List ByteArray) (w : World) (t : Nat) (hn : xs.length ≤ 9223372036854775807) : Kd.C Kd.string (w.alloc (.cells (xs.map Value.string).toArray t)) (some ⟨w.heap.size, 0, none⟩) xs.length xs := by
  refine ⟨rfl, hn, fun _ => ⟨_, rfl, fun j p hj => ⟨[.string p], rfl, rfl, fun i u hu => ?_⟩⟩⟩
  have hi : i = 0 := by
    rcases i with _ | i
    · rfl
    · simp at hu
  subst hi
  simp at hu
  subst hu
  have hj' := List.getElem?_eq_some_iff.1 hj
  show (w.alloc _).cell? ((⟨w.heap.size, 0, none⟩ : Addr).add (j * 1 + 0)) = _
  rw [add_plain, World.cell?_alloc_new]
  simp [hj]

/-- A slice literal, just laid. -/
theorem C_new {α : Type} (d : Kd α) (xs : List α) (cs : List Value) (w : World) (t : Nat) (hn : xs.length ≤ 9223372036854775807) (h : Reps (d.K (w.alloc (.cells cs.toArray t))) d.sz xs cs) : Kd.C d (w.alloc (.cells cs.toArray t)) (some ⟨w.heap.size, 0, none⟩) xs.length xs := by
  refine ⟨rfl, hn, fun _ => ⟨_, rfl, fun j p hj => ⟨(cs.drop (j * d.sz)).take d.sz, d.K_len (h.2 j p hj), h.2 j p hj, fun i u hu => ?_⟩⟩⟩
  rw [add_plain, World.cell?_alloc_new]
  have hi : i < d.sz := by
    have h1 := (List.getElem?_eq_some_iff.1 hu).1
    have h2 := d.K_len (h.2 j p hj)
    omega
  rw [List.getElem?_take, if_pos hi, List.getElem?_drop] at hu
  simpa using hu

theorem C_new' {α : Type} (d : Kd α) (xs : List α) (cs : List Value) (w : World) (t : Nat) (g : Nat) (hg : g = w.heap.size) (hn : xs.length ≤ 9223372036854775807) (h : Reps (d.K (w.alloc (.cells cs.toArray t))) d.sz xs cs) : Kd.C d (w.alloc (.cells cs.toArray t)) (some ⟨g, 0, none⟩) xs.length xs := by
  subst hg
  exact C_new d xs cs w t hn h

theorem ret_int {k : IntKind} {a b : Int} (h : a = b) : Ending.returned (.int k a) = .returned (.int k b) := by rw [h]
theorem ret_string {a b : ByteArray} (h : a = b) : Ending.returned (.string a) = .returned (.string b) := by rw [h]
theorem ret_eq {a b : Value} (h : a = b) : Ending.returned a = Ending.returned b := by rw [h]
end Go.Proofs.YtfimheedecdaiaaDoor

/- The words of what an order took (lines as print.py lays them where a printed function takes such a slice). -/
set_option linter.unusedVariables false
set_option linter.unusedSimpArgs false
namespace Go.Proofs.YtfimheedecdaiaaDoor.Pr
open Go.RowKit Go.Proofs.YtfimheedecdaiaaDoorW.PrintWords Go.Proofs.YtfimheedecdaiaaDoorW.PrintLast Go.Proofs.YtfimheedecdaiaaDoorW.PrintMore
/-! #### struct type api.Taken -/
structure S43 where
  f0 : Int
  f1 : Int
  f2 : Int
  f3 : Int
  f4 : Int
  f5 : Int
def z43 : S43 := ⟨(0 : Int), (0 : Int), (0 : Int), (0 : Int), (0 : Int), (0 : Int)⟩
def k43 : Kd S43 := Kd.iso (Kd.pair (Kd.int .i64) (Kd.pair (Kd.int .i64) (Kd.pair (Kd.int .i64) (Kd.pair (Kd.int .i64) (Kd.pair (Kd.int .i64) (Kd.int .i64)))))) (fun x : S43 => (x.f0, x.f1, x.f2, x.f3, x.f4, x.f5))
theorem k43_open {w : World} {x : S43} {cs : List Value} (h : k43.K w x cs) : cs = [.int .i64 x.f0, .int .i64 x.f1, .int .i64 x.f2, .int .i64 x.f3, .int .i64 x.f4, .int .i64 x.f5] := by
  obtain ⟨_, _, rfl, rfl, ⟨_, _, rfl, rfl, ⟨_, _, rfl, rfl, ⟨_, _, rfl, rfl, ⟨_, _, rfl, rfl, rfl⟩⟩⟩⟩⟩ := h
  exact rfl
theorem k43_openM {w : World} {base : Nat} {ok : Nat → Prop} {x : S43} {cs : List Value} (h : k43.M w base ok x cs) : cs = [.int .i64 x.f0, .int .i64 x.f1, .int .i64 x.f2, .int .i64 x.f3, .int .i64 x.f4, .int .i64 x.f5] := by
  obtain ⟨_, _, rfl, rfl, ⟨_, _, rfl, rfl, ⟨_, _, rfl, rfl, ⟨_, _, rfl, rfl, ⟨_, _, rfl, rfl, rfl⟩⟩⟩⟩⟩ := h
  exact rfl
theorem k43_mk (w : World) (x : S43)  : k43.K w x [.int .i64 x.f0, .int .i64 x.f1, .int .i64 x.f2, .int .i64 x.f3, .int .i64 x.f4, .int .i64 x.f5] := ⟨[.int .i64 x.f0], [.int .i64 x.f1, .int .i64 x.f2, .int .i64 x.f3, .int .i64 x.f4, .int .i64 x.f5], rfl, rfl, ⟨[.int .i64 x.f1], [.int .i64 x.f2, .int .i64 x.f3, .int .i64 x.f4, .int .i64 x.f5], rfl, rfl, ⟨[.int .i64 x.f2], [.int .i64 x.f3, .int .i64 x.f4, .int .i64 x.f5], rfl, rfl, ⟨[.int .i64 x.f3], [.int .i64 x.f4, .int .i64 x.f5], rfl, rfl, ⟨[.int .i64 x.f4], [.int .i64 x.f5], rfl, rfl, rfl⟩⟩⟩⟩⟩
theorem k43_mkM (w : World) (base : Nat) (ok : Nat → Prop) (x : S43)  : k43.M w base ok x [.int .i64 x.f0, .int .i64 x.f1, .int .i64 x.f2, .int .i64 x.f3, .int .i64 x.f4, .int .i64 x.f5] := ⟨[.int .i64 x.f0], [.int .i64 x.f1, .int .i64 x.f2, .int .i64 x.f3, .int .i64 x.f4, .int .i64 x.f5], rfl, rfl, ⟨[.int .i64 x.f1], [.int .i64 x.f2, .int .i64 x.f3, .int .i64 x.f4, .int .i64 x.f5], rfl, rfl, ⟨[.int .i64 x.f2], [.int .i64 x.f3, .int .i64 x.f4, .int .i64 x.f5], rfl, rfl, ⟨[.int .i64 x.f3], [.int .i64 x.f4, .int .i64 x.f5], rfl, rfl, ⟨[.int .i64 x.f4], [.int .i64 x.f5], rfl, rfl, rfl⟩⟩⟩⟩⟩
def rd_T43 (xs : List S43) (i : Int) : S43 := xs.getD i.toNat z43
theorem at_T43 {w : World} {A : Option Addr} {n : Nat} {xs : List S43} (h : Kd.C k43 w A n xs) (i : Int) (h0 : 0 ≤ i) (h1 : i < n) : ∃ ad , A = some ad ∧ w.cell? (ad.add (i.toNat * 6)) = some (.int .i64 (rd_T43 xs i).f0) ∧ w.cell? ⟨(ad.add (i.toNat * 6)).block, (ad.add (i.toNat * 6)).off + 1, none⟩ = some (.int .i64 (rd_T43 xs i).f1) ∧ w.cell? ⟨(ad.add (i.toNat * 6)).block, (ad.add (i.toNat * 6)).off + 2, none⟩ = some (.int .i64 (rd_T43 xs i).f2) ∧ w.cell? ⟨(ad.add (i.toNat * 6)).block, (ad.add (i.toNat * 6)).off + 3, none⟩ = some (.int .i64 (rd_T43 xs i).f3) ∧ w.cell? ⟨(ad.add (i.toNat * 6)).block, (ad.add (i.toNat * 6)).off + 4, none⟩ = some (.int .i64 (rd_T43 xs i).f4) ∧ w.cell? ⟨(ad.add (i.toNat * 6)).block, (ad.add (i.toNat * 6)).off + 5, none⟩ = some (.int .i64 (rd_T43 xs i).f5) := by
  obtain ⟨ad, c, e, _, hK, hc0⟩ := Kd.C_get h z43 i h0 h1
  have hc : ∀ j u, c[j]? = some u → w.cell? (ad.add (i.toNat * 6 + j)) = some u := hc0
  obtain rfl := k43_open hK
  exact ⟨ad, e, hc 0 _ rfl, by rw [← add_field _ _ 1 (by omega)]; exact hc 1 _ rfl, by rw [← add_field _ _ 2 (by omega)]; exact hc 2 _ rfl, by rw [← add_field _ _ 3 (by omega)]; exact hc 3 _ rfl, by rw [← add_field _ _ 4 (by omega)]; exact hc 4 _ rfl, by rw [← add_field _ _ 5 (by omega)]; exact hc 5 _ rfl⟩

end Go.Proofs.YtfimheedecdaiaaDoor.Pr

/- What the leaves of money, frac, order and attach compute, in closed form, and their contracts in that form. -/
set_option linter.unusedVariables false
set_option linter.unusedSimpArgs false
namespace Go.Proofs.YtfimheedecdaiaaDoor
open Go.RowKit Go.Proofs.YtfimheedecdaiaaDoorW.PrintWords Go.Proofs.YtfimheedecdaiaaDoorW.PrintLast Go.Proofs.YtfimheedecdaiaaDoorW.PrintMore Go.Proofs.YtfimheedecdaiaaDoor.Pr

/-- An amount that may be. -/
def okA (x : Int) : Bool := decide (-100000000000 ≤ x) && decide (x ≤ 100000000000)
theorem okA_iff (x : Int) : okA x = true ↔ -100000000000 ≤ x ∧ x ≤ 100000000000 := by simp [okA]
theorem okA_not (x : Int) : okA x = false ↔ (x < -100000000000 ∨ 100000000000 < x) := by
  rw [← Bool.not_eq_true, okA_iff]
  omega
theorem wrap64_id {x : Int} (h0 : -9223372036854775808 ≤ x) (h1 : x ≤ 9223372036854775807) : wrap64 x = x := by unfold wrap64; omega
def addV (a b : Int) : Int := if okA a && okA b && okA (a + b) then a + b else 0
def addE (a b : Int) : Int := if okA a && okA b && okA (a + b) then 0 else 10
theorem addE_zero (a b : Int) : addE a b = 0 ↔ (okA a = true ∧ okA b = true ∧ okA (a + b) = true) := by
  unfold addE
  split
  · rename_i h
    simp only [Bool.and_eq_true] at h
    exact ⟨fun _ => ⟨h.1.1, h.1.2, h.2⟩, fun _ => rfl⟩
  · rename_i h
    constructor
    · intro h'; omega
    · rintro ⟨h1, h2, h3⟩
      simp [h1, h2, h3] at h
theorem addE_cases (a b : Int) : addE a b = 0 ∨ addE a b = 10 := by unfold addE; split <;> simp
theorem addV_of (a b : Int) (h : addE a b = 0) : addV a b = a + b := by
  obtain ⟨h1, h2, h3⟩ := (addE_zero a b).1 h
  simp [addV, h1, h2, h3]
theorem addV_not (a b : Int) (h : addE a b ≠ 0) : addV a b = 0 := by
  unfold addE at h
  unfold addV
  split
  · rename_i h'; rw [if_pos h'] at h; omega
  · rfl

theorem right1' (x : Int) : money_Right.f 3 [x] = some (okA x) := by
  simp only [money_Right.f, money_Right.l0, rd, okA]
  by_cases h1 : x > 100000000000
  · simp [h1]
  · by_cases h2 : x < -100000000000
    · simp [h1, h2]
    · simp [h1, h2, wrap64]
      omega
theorem right2' (x y : Int) : money_Right.f 4 [x, y] = some (okA x && okA y) := by
  simp only [money_Right.f, money_Right.l0, rd, okA]
  by_cases h1 : x > 100000000000
  · simp [h1]
    omega
  · by_cases h2 : x < -100000000000
    · simp [h1, h2]
      omega
    · by_cases h3 : y > 100000000000
      · simp [h1, h2, h3, wrap64]
      · by_cases h4 : y < -100000000000
        · simp [h1, h2, h3, h4, wrap64]
        · simp [h1, h2, h3, h4, wrap64]
          omega
theorem right1 (x : Int) (k : Nat) (hk : 3 ≤ k) : money_Right.f k [x] = some (okA x) := at_rounds (money_Right.mono _) hk (right1' x)
theorem right2 (x y : Int) (k : Nat) (hk : 4 ≤ k) : money_Right.f k [x, y] = some (okA x && okA y) := at_rounds (money_Right.mono _) hk (right2' x y)
theorem check_eq (x : Int) (k : Nat) (hk : 3 ≤ k) : money_check.f k x = some (if okA x then x else 0, if okA x then 0 else 10) := by
  unfold money_check.f
  rw [right1 x k hk]
  cases okA x <;> simp
theorem add_eq (a b : Int) (k : Nat) (hk : 4 ≤ k) : money_Add.f k a b = some (addV a b, addE a b) := by
  unfold money_Add.f
  rw [right2 a b k hk]
  by_cases h : okA a && okA b
  · simp only [h, Option.bind_some, if_true, Bool.true_and, addV, addE]
    have h' := h
    simp only [Bool.and_eq_true, okA_iff] at h'
    rw [wrap64_id (by omega) (by omega), check_eq _ k (by omega)]
    rfl
  · simp [h, addV, addE]
theorem add_any (a b : Int) (w : World) : Calls Tryd.prog 37 #[.int .i64 a, .int .i64 b] w fun e w' => e = .returned (.tuple #[.int .i64 (addV a b), .int .i64 (addE a b)]) ∧ Below w.heap.size w w' :=
  money_Add.calls 4 a b _ _ w (add_eq a b 4 (by omega))

def rateOk (r : Int) : Bool := decide (0 ≤ r) && decide (r ≤ 10000)
theorem rateOk_iff (r : Int) : rateOk r = true ↔ 0 ≤ r ∧ r ≤ 10000 := by simp [rateOk]
theorem rate_eq (r : Int) : frac_Rate.f r = some (rateOk r) := by
  unfold frac_Rate.f rateOk
  split <;> simp <;> omega
def takeV (x r : Int) : Int := if okA x && rateOk r then x * r / 10000 else 0
def takeE (x r : Int) : Int := if okA x then (if rateOk r then 0 else 50) else 10
theorem take_eq (x r : Int) (hx : 0 ≤ x) (k : Nat) (hk : 4 ≤ k) : frac_Take.f k x r 1 = some (takeV x r, takeE x r) := by
  unfold frac_Take.f frac_Part.f
  rw [right1 x k (by omega), rate_eq]
  by_cases h1 : okA x = true
  · by_cases h2 : rateOk r = true
    · have h1' := (okA_iff x).1 h1
      have h2' := (rateOk_iff r).1 h2
      have hp0 : 0 ≤ x * r := Int.mul_nonneg hx h2'.1
      have hp1 : x * r ≤ 100000000000 * 10000 := Int.mul_le_mul h1'.2 h2'.2 h2'.1 (by omega)
      have htv : takeV x r = x * r / 10000 := by simp [takeV, h1, h2]
      generalize x * r = p at *
      have hw : wrap64 p = p := wrap64_id (by omega) (by omega)
      obtain ⟨j, rfl⟩ : ∃ j, k = j + 1 := ⟨k - 1, by omega⟩
      have hm : ¬ (Int.tmod p 10000 < 0) := by
        rw [Int.tmod_eq_emod_of_nonneg hp0]
        omega
      have hd : wrap64 (Int.tdiv p 10000) = p / 10000 := by
        rw [Int.tdiv_eq_ediv_of_nonneg hp0]
        exact wrap64_id (by omega) (by omega)
      have hfl : frac_floor.f p 10000 = some (p / 10000, Int.tmod p 10000) := by
        unfold frac_floor.f
        rw [if_neg (by omega), if_neg hm, hd]
      have hrd : frac_Round.f (j + 1) p 10000 1 = some (p / 10000, 0) := by
        have hmode : frac_Mode.f 1 = some true := rfl
        unfold frac_Round.f
        rw [if_neg (by omega), hmode]
        simp only [Option.bind_some, Bool.not_true, frac_Round.j0, hfl]
        rw [if_neg (by decide)]
        split
        · rfl
        · rfl
      have hrt : frac_Right.f p = some true := by
        unfold frac_Right.f
        rw [if_pos (by omega)]
        simp
        omega
      simp [h1, h2, hw, frac_Coins.f, hrt, hrd, takeE, htv]
    · simp [h1, h2, takeV, takeE]
  · simp [h1, takeV, takeE]

/-- How much an order may still order, beside its arrears. -/
def leftV (s : S45) : Int := if s.f0.f4 = 0 then 100000000000 else mx 0 (wrap64 (wrap64 (s.f0.f4 - s.f1) - s.f2))
theorem left_eq (s : S45) : order_State_Left.f s.f0.f0 s.f0.f1 s.f0.f2 s.f0.f3 s.f0.f4 s.f1 s.f2 = some (leftV s) := by
  unfold order_State_Left.f leftV
  split <;> rfl
/-- What an order orders in a period of so much net pay: the amount, and the error's number. -/
def ordV (s : S45) (net : Int) : Int :=
  if takeE (mx 0 net) s.f0.f3 = 0 then (if addE s.f0.f2 (takeV (mx 0 net) s.f0.f3) = 0 then mn (addV s.f0.f2 (takeV (mx 0 net) s.f0.f3)) (leftV s) else 0) else 0
def ordE (s : S45) (net : Int) : Int :=
  if takeE (mx 0 net) s.f0.f3 = 0 then addE s.f0.f2 (takeV (mx 0 net) s.f0.f3) else takeE (mx 0 net) s.f0.f3
theorem mx_nonneg (x : Int) : 0 ≤ mx 0 x := by unfold mx; split <;> omega
theorem ord_eq (s : S45) (net : Int) (k : Nat) (hk : 4 ≤ k) : order_State_Ordered.f k s.f0.f0 s.f0.f1 s.f0.f2 s.f0.f3 s.f0.f4 s.f1 s.f2 net = some (ordV s net, ordE s net) := by
  unfold order_State_Ordered.f ordV ordE
  rw [take_eq _ _ (mx_nonneg net) k hk]
  simp only [Option.bind_some]
  by_cases h1 : takeE (mx 0 net) s.f0.f3 = 0
  · simp only [h1, if_true, add_eq _ _ k hk, Option.bind_some, left_eq]
    split
    · rename_i h; rw [h]
    · rfl
  · simp only [h1, if_false]
theorem ord_any (s : S45) (net : Int) (w : World) :
    Calls Tryd.prog 25 #[.agg #[.int .i64 s.f0.f0, .int .i64 s.f0.f1, .int .i64 s.f0.f2, .int .i64 s.f0.f3, .int .i64 s.f0.f4, .int .i64 s.f1, .int .i64 s.f2], .int .i64 net] w fun e w' => e = .returned (.tuple #[.int .i64 (ordV s net), .int .i64 (ordE s net)]) ∧ Below w.heap.size w w' :=
  order_State_Ordered.calls 4 _ _ _ _ _ _ _ _ _ _ w (ord_eq s net 4 (by omega))

theorem right2_any (x y : Int) (A : Option Addr) (c : Nat) (w : World) (hr : Kd.C (Kd.int .i64) w A 2 [x, y]) (hc : 2 ≤ c) :
    Calls Tryd.prog 38 #[.slice A 2 c] w fun e w' => e = .returned (.bool (okA x && okA y)) ∧ Drawn0 w w' :=
  money_Right.calls 4 A c [x, y] _ w hr hc (right2 x y 4 (by omega))
end Go.Proofs.YtfimheedecdaiaaDoor

/- What order.Check computes, in closed form; the states that may be. -/
set_option linter.unusedVariables false
set_option linter.unusedSimpArgs false
namespace Go.Proofs.YtfimheedecdaiaaDoor
open Go.RowKit Go.Proofs.YtfimheedecdaiaaDoorW.PrintWords Go.Proofs.YtfimheedecdaiaaDoorW.PrintLast Go.Proofs.YtfimheedecdaiaaDoorW.PrintMore Go.Proofs.YtfimheedecdaiaaDoor.Pr

/-- The error of an order. -/
def checkE (id pr am ra tot : Int) : Int :=
  if id < 1 ∨ id > 999999 ∨ pr < 0 ∨ pr > 999 then 1
  else if (okA am && okA tot) = false then 10
  else if am < 0 ∨ tot < 0 then 1
  else if rateOk ra = false then 50
  else if am = 0 ∧ ra = 0 then 5 else 0
theorem chk_eq (id pr am ra tot : Int) (k : Nat) (hk : 6 ≤ k) : order_Check.f k id pr am ra tot = some (checkE id pr am ra tot) := by
  obtain ⟨j, rfl⟩ : ∃ j, k = j + 2 := ⟨k - 2, by omega⟩
  have hj1 : ∀ b : Bool, order_Check.j1 (j + 1) b id pr am ra tot = some (if b = true then 1 else if rateOk ra = false then 50 else if am = 0 ∧ ra = 0 then 5 else 0) := by
    intro b
    simp only [order_Check.j1, rate_eq, Option.bind_some]
    cases b <;> cases h : rateOk ra <;> by_cases h1 : am = 0 <;> by_cases h2 : ra = 0 <;> simp [h1, h2]
  have hj0 : ∀ b : Bool, order_Check.j0 (j + 2) b id pr am ra tot = some (if b = true then 1 else if (okA am && okA tot) = false then 10 else if am < 0 ∨ tot < 0 then 1 else if rateOk ra = false then 50 else if am = 0 ∧ ra = 0 then 5 else 0) := by
    intro b
    simp only [order_Check.j0, right2 _ _ (j + 1) (by omega), Option.bind_some, hj1]
    cases b <;> cases h : (okA am && okA tot) <;> by_cases h1 : am < 0 <;> by_cases h2 : tot < 0 <;> simp [h1, h2]
  unfold order_Check.f checkE
  simp only [hj0]
  by_cases h1 : id < 1 <;> by_cases h2 : id > 999999 <;> by_cases h3 : pr < 0 <;> by_cases h4 : pr > 999 <;> simp [h1, h2, h3, h4]

def chkS (s : S45) : Int := checkE s.f0.f0 s.f0.f1 s.f0.f2 s.f0.f3 s.f0.f4
/-- A state that may be. -/
def goodS (s : S45) : Prop := chkS s = 0 ∧ 0 ≤ s.f1 ∧ 0 ≤ s.f2 ∧ s.f1 ≤ 100000000000 ∧ s.f2 ≤ 100000000000

end Go.Proofs.YtfimheedecdaiaaDoor

/- The contracts of strconv.FormatUint at base 10 (every uint64) and of what lies beneath; the world behind the call: nothing that was there has turned. Condition: the library's table of powers of ten reads as it is laid. -/
set_option linter.unusedVariables false
set_option linter.unusedSimpArgs false
namespace Go.Proofs.YtfimheedecdaiaaDoor
open Go.RowKit Go.Sort Go.Lib Go.Shelf

theorem below_growN (w : World) (k : Nat) (os : Array Obj) : Below w.heap.size w (grow (w.drewN k) os) := Lib.below_grow _ w (Nat.le_refl _) k os

set_option maxHeartbeats 6400000 in
set_option maxRecDepth 100000 in
theorem fmtUint_in (u : Nat) (hu64 : u < 18446744073709551616) (w : World)
    (htab : Lib.TabIs Tryd.prog w "internal/strconv.uint64pow10" .u64 Lib.pow10Tab) :
    Calls Tryd.prog 61 #[.int .u64 u, .int .i64 10] w fun e w' => e = .returned (.string ⟨(Lib.decDigits u).toArray⟩) ∧ Below w.heap.size w w' := by
  by_cases hs : u < 100
  · go_enter Tryd.func61, Tryd.ntmps61
    have hs' : (u : Int) < 100 := by omega
    go_wp2_with (go_at_call 69; refine (Tryd.internal_strconv_small u hs _).mono ?_; rintro e w' ⟨rfl, rfl⟩)
    go_ret
    exact ⟨rfl, Below.refl _ _⟩
  · have hu1 : 1 ≤ u := by omega
    have hs' : ¬ (u : Int) < 100 := by omega
    have hnd20 : Lib.nDigits u ≤ 20 := by have := Lib.numDigits_eq u hu1 hu64; split at this <;> omega
    have hb3 : Lib.nDigits u ≤ 24 := by omega
    have hal : Tryd.prog.arrayLen 109 = 24 := by kernel_rfl
    have hsl1 : ∀ W, (Instr.sliceAt 109 (.pointer (some ⟨w.heap.size, 0, none⟩)) none (some (.int .i64 (Lib.nDigits u : Int))) none).run Tryd.prog W = .ok (.slice (some ⟨w.heap.size, 0, none⟩) (Lib.nDigits u) 24) W := fun W => by
      rw [run_sliceAt_array_h W 109 ⟨w.heap.size, 0, none⟩ (by simp [Program.arrayLen, Program.elem, Tryd.underlying109]) .i64 (Lib.nDigits u : Int) (by omega) (by rw [hal]; omega)]
      go_simp
    have hH0 : Holds (fun (b : UInt8) => Value.int .u8 (b.toNat : Int)) (w.alloc (.cells Lib.zeros24 109)) w.heap.size 0 (Array.replicate (Lib.nDigits u) (0 : UInt8)) := fun j hj => by
      have hj' : j < Lib.nDigits u := by simpa using hj
      refine ⟨?_, World.frozen?_alloc_new _ _ _ _⟩
      rw [World.cell?_alloc_new, zeros24_at _ (by omega), getElem!_pos _ j hj]
      simp
    have hfmt := Tryd.internal_strconv_formatBase10 w.heap.size 0 24 u (Array.replicate (Lib.nDigits u) 0) (w.alloc (.cells Lib.zeros24 109)) hH0 (by rw [Array.size_replicate]; exact Lib.lt_pow_nDigits u) hu64 (by rw [Array.size_replicate]; omega)
    rw [Array.size_replicate] at hfmt
    have HH0 := Lib.hid hH0
    clear hH0 hal
    go_enter Tryd.func61, Tryd.ntmps61
    go_wp2_with (first
      | (go_at_call 70; refine (Tryd.internal_strconv_numDigits u hu1 hu64 _ (Lib.tabIs_alloc htab _)).mono ?_; rintro e w' ⟨rfl, rfl⟩))
    go_at_call 71
    refine hfmt.mono ?_
    rintro e w' ⟨rfl, k, v', dk, rfl, hF⟩
    have hcv : (convert 112 9 (.slice (some ⟨w.heap.size, 0, none⟩) (Lib.nDigits u) 24)).run Tryd.prog ((putRow (fun (b : UInt8) => Value.int .u8 (b.toNat : Int)) (w.alloc (.cells Lib.zeros24 109)) w.heap.size 0 dk).drewN k) = .ok (.string ⟨(Lib.decDigits u).toArray⟩) ((putRow (fun (b : UInt8) => Value.int .u8 (b.toNat : Int)) (w.alloc (.cells Lib.zeros24 109)) w.heap.size 0 dk).drewN k) := by
      have h := run_convert_bytes_back (P := Tryd.prog) ((putRow (fun (b : UInt8) => Value.int .u8 (b.toNat : Int)) (w.alloc (.cells Lib.zeros24 109)) w.heap.size 0 dk).drewN k) 112 9 5 ⟨w.heap.size, 0, none⟩ 24 (Lib.decDigits u) Tryd.underlying112 Tryd.underlying5 Tryd.underlying9 (fun j hj => by
        rw [Lib.row_is_numeral hF j hj, Lib.add_plain, World.cell?_drewN]
        exact cell?_putRow (fun (b : UInt8) => Value.int .u8 (b.toNat : Int)) _ w.heap.size 0 _ dk HH0.out (by rw [hF.size, Array.size_replicate]) j (by rw [hF.size]; rw [Lib.decDigits_length] at hj; exact hj))
      rw [Lib.decDigits_length] at h
      exact h
    go_wp2
    go_ret
    obtain ⟨os', _, e⟩ := putRow_grow_new (fun (b : UInt8) => Value.int .u8 (b.toNat : Int)) w #[.cells Lib.zeros24 109] w.heap.size 0 dk (Nat.le_refl _)
    refine ⟨rfl, ?_⟩
    rw [alloc_eq_grow, e]
    exact below_growN w k os'

set_option maxRecDepth 100000 in
theorem fmtUint (u : Nat) (hu64 : u < 18446744073709551616) (w : World)
    (htab : Lib.TabIs Tryd.prog w "internal/strconv.uint64pow10" .u64 Lib.pow10Tab) :
    Calls Tryd.prog 44 #[.int .u64 u, .int .i64 10] w fun e w' => e = .returned (.string ⟨(Lib.decDigits u).toArray⟩) ∧ Below w.heap.size w w' := by
  go_enter Tryd.func44, Tryd.ntmps44
  go_wp2_with (go_at_call 61; refine (fmtUint_in u hu64 _ htab).mono ?_; rintro e w' ⟨rfl, hb⟩)
  go_ret
  exact ⟨rfl, hb⟩

/-- The same, over Int. -/
theorem fmtUintI (n : Int) (h0 : 0 ≤ n) (h1 : n < 18446744073709551616) (w : World)
    (htab : Lib.TabIs Tryd.prog w "internal/strconv.uint64pow10" .u64 Lib.pow10Tab) :
    Calls Tryd.prog 44 #[.int .u64 n, .int .i64 10] w fun e w' => e = .returned (.string ⟨(Lib.decDigits n.toNat).toArray⟩) ∧ Below w.heap.size w w' := by
  obtain ⟨u, rfl⟩ := Int.eq_ofNat_of_zero_le h0
  exact fmtUint u (by omega) w htab
end Go.Proofs.YtfimheedecdaiaaDoor

/- The contracts of money.Abs and money.Text at every int64: an amount as it is written. Condition: the library's table of powers of ten reads as it is laid. -/
set_option linter.unusedVariables false
set_option linter.unusedSimpArgs false
namespace Go.Proofs.YtfimheedecdaiaaDoor
open Go.RowKit Go.Sort Go.Lib Go.Shelf


/-- An amount as it is written, in bytes. -/
def textL (x : Int) : List UInt8 :=
  (if x < 0 then [45] else []) ++ (Lib.decDigits (x.natAbs / 100) ++ (46 :: ((if x.natAbs % 100 < 10 then [48] else []) ++ Lib.decDigits (x.natAbs % 100))))

set_option maxRecDepth 100000 in
theorem abs_any (x : Int) (h0 : -9223372036854775808 ≤ x) (h1 : x ≤ 9223372036854775807) (w : World) :
    Calls Tryd.prog 43 #[.int .i64 x] w fun e w' => e = .returned (.int .u64 (x.natAbs : Int)) ∧ w' = w := by
  by_cases hx : x < 0
  · go_enter Tryd.func43, Tryd.ntmps43
    go_wp2
    go_ret
    exact ⟨ret_int (by omega), rfl⟩
  · go_enter Tryd.func43, Tryd.ntmps43
    go_wp2
    go_ret
    exact ⟨ret_int (by omega), rfl⟩

theorem dec_len (n : Nat) (h : n < 18446744073709551616) : (Lib.decDigits n).length ≤ 20 := by
  rw [Lib.decDigits_length]
  by_cases h1 : 1 ≤ n
  · have := Lib.numDigits_eq n h1 h; split at this <;> omega
  · obtain rfl : n = 0 := by omega
    decide +kernel

theorem str_app (a b : List UInt8) : (⟨a.toArray⟩ : ByteArray) ++ (⟨b.toArray⟩ : ByteArray) = ⟨(a ++ b).toArray⟩ := by
  apply ByteArray.ext
  simp

set_option maxHeartbeats 1600000 in
set_option maxRecDepth 100000 in
theorem text_any (x : Int) (h0 : -9223372036854775808 ≤ x) (h1 : x ≤ 9223372036854775807) (w : World)
    (htab : Lib.TabIs Tryd.prog w "internal/strconv.uint64pow10" .u64 Lib.pow10Tab) :
    Calls Tryd.prog 19 #[.int .i64 x] w fun e w' => e = .returned (.string ⟨(textL x).toArray⟩) ∧ Below w.heap.size w w' := by
  have htb := tabBelow_of_tabIs htab
  have l1 := dec_len (x.natAbs / 100) (by omega)
  have l2 := dec_len (x.natAbs % 100) (by omega)
  by_cases hn : x < 0 <;> by_cases hm : (x.natAbs : Int) % 100 < 10
  all_goals
    go_enter Tryd.func19, Tryd.ntmps19
    go_wp2_with fail
    refine (abs_any x h0 h1 _).mono ?_
    rintro e w1 ⟨rfl, rfl⟩
    go_wp2_with fail
    refine (fmtUintI _ (by omega) (by omega) _ htab).mono ?_
    rintro e w2 ⟨rfl, hb2⟩
    have htab2 := (htb.on hb2).here
    go_wp2_with fail
    refine (fmtUintI _ (by omega) (by omega) _ htab2).mono ?_
    rintro e w3 ⟨rfl, hb3⟩
    go_wp2
    go_ret
    refine ⟨?_, hb2.trans (hb3.mono hb2.size)⟩
  all_goals
    refine ret_string ?_
    simp only [str_app]
    clear htab htb htab2
    unfold textL
    split <;> split <;> first | omega | simp
end Go.Proofs.YtfimheedecdaiaaDoor

/- An amount as it is written, as a string; its contract. -/
set_option linter.unusedVariables false
set_option linter.unusedSimpArgs false
namespace Go.Proofs.YtfimheedecdaiaaDoor
open Go.RowKit Go.Lib
def textB (x : Int) : ByteArray := ⟨(textL x).toArray⟩
theorem textB_any (x : Int) (h0 : -9223372036854775808 ≤ x) (h1 : x ≤ 9223372036854775807) (w : World)
    (htab : Lib.TabIs Tryd.prog w "internal/strconv.uint64pow10" .u64 Lib.pow10Tab) :
    Calls Tryd.prog 19 #[.int .i64 x] w fun e w' => e = .returned (.string (textB x)) ∧ Below w.heap.size w w' := text_any x h0 h1 w htab

def i64 (x : Int) : Prop := -9223372036854775808 ≤ x ∧ x ≤ 9223372036854775807

end Go.Proofs.YtfimheedecdaiaaDoor

/- Slices whose elements are structs of plain cells: their cells in a row. -/
set_option linter.unusedVariables false
set_option linter.unusedSimpArgs false
namespace Go.Proofs.YtfimheedecdaiaaDoor
open Go.RowKit Go.Proofs.YtfimheedecdaiaaDoorW.PrintWords Go.Proofs.YtfimheedecdaiaaDoorW.PrintLast Go.Proofs.YtfimheedecdaiaaDoorW.PrintMore

/-- The kind's elements are plain cells, whatever the world. -/
structure FlatKd {α : Type} (d : Kd α) (f : α → List Value) : Prop where
  len : ∀ x, (f x).length = d.sz
  one : ∀ x, ∀ u ∈ f x, u.oneCell' = true
  K : ∀ w x cs, d.K w x cs ↔ cs = f x
  M : ∀ w base ok x, d.M w base ok x (f x)
  pos : 0 < d.sz

section
variable {α : Type} {d : Kd α} {f : α → List Value}
theorem flat_length (h : FlatKd d f) : ∀ l : List α, (l.flatMap f).length = l.length * d.sz
  | [] => by simp
  | x :: r => by
    rw [List.flatMap_cons, List.length_append, h.len, flat_length h r, List.length_cons, Nat.add_mul, Nat.one_mul, Nat.add_comm]
theorem flat_drop (h : FlatKd d f) : ∀ (l : List α) (j : Nat), (l.flatMap f).drop (j * d.sz) = (l.drop j).flatMap f
  | l, 0 => by simp
  | [], j + 1 => by simp
  | x :: r, j + 1 => by
    rw [List.flatMap_cons, show (j + 1) * d.sz = (f x).length + j * d.sz from by rw [h.len, Nat.add_mul, Nat.one_mul, Nat.add_comm], ← List.drop_drop, List.drop_left, flat_drop h r j]
    rfl
theorem flat_reps (h : FlatKd d f) (w : World) (l : List α) : Reps (d.K w) d.sz l (l.flatMap f) := by
  refine ⟨flat_length h l, fun j p hj => ?_⟩
  rw [flat_drop h, h.K]
  obtain ⟨hlt, rfl⟩ := List.getElem?_eq_some_iff.1 hj
  rw [List.drop_eq_getElem_cons hlt, List.flatMap_cons, ← h.len l[j], List.take_left]
theorem flat_repsM (h : FlatKd d f) (w : World) (base : Nat) (ok : Nat → Prop) (l : List α) : Reps (d.M w base ok) d.sz l (l.flatMap f) := by
  refine ⟨flat_length h l, fun j p hj => ?_⟩
  rw [flat_drop h]
  obtain ⟨hlt, rfl⟩ := List.getElem?_eq_some_iff.1 hj
  rw [List.drop_eq_getElem_cons hlt, List.flatMap_cons, ← h.len l[j], List.take_left]
  exact h.M _ _ _ _
theorem flat_one (h : FlatKd d f) (l : List α) : ∀ u ∈ l.flatMap f, u.oneCell' = true := by
  intro u hu
  obtain ⟨x, _, hx⟩ := List.mem_flatMap.1 hu
  exact h.one x u hx
/-- Where the cells of a slice that is read lie. -/
theorem flat_cells (h : FlatKd d f) {w : World} {A : Option Addr} {n : Nat} {l : List α} (hC : d.C w A n l) (hn : 0 < n) : ∃ ad, A = some ad ∧ ∀ j u, (l.flatMap f)[j]? = some u → w.cell? (ad.add j) = some u := by
  obtain ⟨ad, rfl, hc⟩ := hC.2.2 hn
  refine ⟨ad, rfl, fun j u hu => ?_⟩
  have hj := (List.getElem?_eq_some_iff.1 hu).1
  rw [flat_length h] at hj
  have hp := h.pos
  have hlt : j / d.sz < l.length := (Nat.div_lt_iff_lt_mul hp).2 hj
  obtain ⟨c, h1, h2, h3⟩ := hc (j / d.sz) l[j / d.sz] (List.getElem?_eq_getElem hlt)
  rw [h.K] at h2
  subst h2
  have h4 := h3 (j % d.sz) u ?_
  · rwa [show j / d.sz * d.sz + j % d.sz = j from by rw [Nat.mul_comm]; exact Nat.div_add_mod j d.sz] at h4
  · have e : (l.flatMap f)[j]? = ((l.flatMap f).drop (j / d.sz * d.sz))[j % d.sz]? := by
      rw [List.getElem?_drop]
      congr 1
      rw [Nat.mul_comm]
      exact (Nat.div_add_mod j d.sz).symm
    rw [e, flat_drop h, List.drop_eq_getElem_cons hlt, List.flatMap_cons, List.getElem?_append_left (by rw [h.len]; exact Nat.mod_lt _ hp)] at hu
    exact hu
/-- A row of the call's own whose cells are known, as a slice that is read. -/
theorem flat_own (h : FlatKd d f) {w : World} {base n : Nat} {e : TypeId} {v : Value} {l : List α} (ho : w.ownsRow base e d.sz v n (l.flatMap f)) (hn : l.length = n) : d.R e w base (fun _ => True) v l := by
  subst hn
  exact ⟨fun _ _ => trivial, _, ho, flat_repsM h _ _ _ _⟩
end
end Go.Proofs.YtfimheedecdaiaaDoor

/- The states of orders, and what they took, as plain cells. -/
set_option linter.unusedVariables false
namespace Go.Proofs.YtfimheedecdaiaaDoor
open Go.RowKit Go.Proofs.YtfimheedecdaiaaDoorW.PrintWords Go.Proofs.YtfimheedecdaiaaDoorW.PrintLast Go.Proofs.YtfimheedecdaiaaDoorW.PrintMore Go.Proofs.YtfimheedecdaiaaDoor.Pr
def cellsS (s : S45) : List Value := [.int .i64 s.f0.f0, .int .i64 s.f0.f1, .int .i64 s.f0.f2, .int .i64 s.f0.f3, .int .i64 s.f0.f4, .int .i64 s.f1, .int .i64 s.f2]
theorem flatS : FlatKd k45 cellsS := by
  refine ⟨fun _ => rfl, fun x u hu => ?_, fun w x cs => ⟨fun h => k45_open h, fun h => by subst h; exact k45_mk w x⟩, fun w base ok x => k45_mkM w base ok x, by decide⟩
  simp only [cellsS, List.mem_cons, List.not_mem_nil, or_false] at hu
  rcases hu with rfl | rfl | rfl | rfl | rfl | rfl | rfl <;> rfl
def cellsT (s : S43) : List Value := [.int .i64 s.f0, .int .i64 s.f1, .int .i64 s.f2, .int .i64 s.f3, .int .i64 s.f4, .int .i64 s.f5]
theorem flatT : FlatKd k43 cellsT := by
  refine ⟨fun _ => rfl, fun x u hu => ?_, fun w x cs => ⟨fun h => k43_open h, fun h => by subst h; exact k43_mk w x⟩, fun w base ok x => k43_mkM w base ok x, by decide⟩
  simp only [cellsT, List.mem_cons, List.not_mem_nil, or_false] at hu
  rcases hu with rfl | rfl | rfl | rfl | rfl | rfl <;> rfl
def cellsO (o : S29) : List Value := [.int .i64 o.f0, .int .i64 o.f1, .int .i64 o.f2, .int .i64 o.f3, .int .i64 o.f4]
end Go.Proofs.YtfimheedecdaiaaDoor

/- Plain laws of what orders take of a net pay: what is left, what is carried, what they come to. -/
set_option linter.unusedVariables false
set_option linter.unusedSimpArgs false
namespace Go.Proofs.YtfimheedecdaiaaDoor
open Go.RowKit Go.Proofs.YtfimheedecdaiaaDoorW.PrintWords Go.Proofs.YtfimheedecdaiaaDoorW.PrintLast Go.Proofs.YtfimheedecdaiaaDoorW.PrintMore Go.Proofs.YtfimheedecdaiaaDoor.Pr

theorem chk_zero (id pr am ra tot : Int) (h : checkE id pr am ra tot = 0) : 1 ≤ id ∧ id ≤ 999999 ∧ 0 ≤ pr ∧ pr ≤ 999 ∧ 0 ≤ am ∧ am ≤ 100000000000 ∧ 0 ≤ tot ∧ tot ≤ 100000000000 ∧ 0 ≤ ra ∧ ra ≤ 10000 := by
  unfold checkE at h
  split at h
  · omega
  · split at h
    · omega
    · rename_i h2
      simp only [Bool.not_eq_false, Bool.and_eq_true, okA_iff] at h2
      split at h
      · omega
      · split at h
        · omega
        · rename_i h4
          simp only [Bool.not_eq_false, rateOk_iff] at h4
          omega
theorem mx_def (a b : Int) : mx a b = max a b := by unfold mx; split <;> omega
theorem mn_def (a b : Int) : mn a b = min a b := by unfold mn; split <;> omega
theorem takeV_nonneg (x r : Int) (hx : 0 ≤ x) : 0 ≤ takeV x r := by
  unfold takeV
  split
  · rename_i h
    simp only [Bool.and_eq_true, okA_iff, rateOk_iff] at h
    have : 0 ≤ x * r := Int.mul_nonneg hx h.2.1
    omega
  · omega
theorem ordV_nonneg (s : S45) (net : Int) (hg : goodS s) : 0 ≤ ordV s net := by
  have h1 := chk_zero _ _ _ _ _ hg.1
  have h2 := takeV_nonneg (mx 0 net) s.f0.f3 (mx_nonneg net)
  unfold ordV
  split
  · split
    · rename_i h4
      rw [addV_of _ _ h4, mn_def]
      have : 0 ≤ leftV s := by
        unfold leftV
        split
        · omega
        · exact mx_nonneg _
      omega
    · omega
  · omega
theorem dropT_at (l : List S43) (i : Nat) (h : i < l.length) : l.drop i = rd_T43 l i :: l.drop (i + 1) := by
  rw [List.drop_eq_getElem_cons h]
  simp [rd_T43, h]
theorem goods_of (l : List S45) (h : ∀ j : Nat, j < l.length → goodS (rd_T45 l j)) : ∀ s ∈ l, goodS s := by
  intro s hs
  obtain ⟨i, hi, rfl⟩ := List.getElem_of_mem hs
  have := h i hi
  simpa [rd_T45, hi] using this
end Go.Proofs.YtfimheedecdaiaaDoor

/- Plain laws of decimal digits: what they are, their value, and that the digits of a number have that number's value. -/
set_option linter.unusedVariables false
set_option linter.unusedSimpArgs false
namespace Go.Proofs.YtfimheedecdaiaaDoor
open Go.RowKit Go.Lib Go.Proofs.YtfimheedecdaiaaDoorW.PrintWords

def bL (l : List UInt8) : ByteArray := ⟨l.toArray⟩
theorem bL_size (l : List UInt8) : (bL l).size = l.length := by simp [bL, ByteArray.size]
theorem bt_bL (l : List UInt8) (i : Nat) (h : i < l.length) : bt (bL l) (i : Int) = (l[i].toNat : Int) := by
  have h' : (i : Int).toNat < (bL l).size := by rw [bL_size]; simpa using h
  rw [← bt_at (bL l) (i : Int) h']
  simp [bL, ByteArray.getElem_eq_getElem_data]
theorem bL_toList (l : List UInt8) : (bL l).data.toList = l := by simp [bL]
theorem bL_of (s : ByteArray) : bL s.data.toList = s := by
  cases s
  simp [bL]
theorem extract_bL (l : List UInt8) (a b : Nat) : (bL l).extract a b = bL ((l.take b).drop a) := by
  apply ByteArray.ext
  simp [bL, List.extract_eq_take_drop, List.drop_take]

def isDig (c : UInt8) : Prop := 48 ≤ c.toNat ∧ c.toNat ≤ 57
/-- The value of digits behind others. -/
def valL : Int → List UInt8 → Int
  | acc, [] => acc
  | acc, c :: r => valL (10 * acc + ((c.toNat : Int) - 48)) r
theorem valL_snoc : ∀ (l : List UInt8) (acc : Int) (c : UInt8), valL acc (l ++ [c]) = 10 * valL acc l + ((c.toNat : Int) - 48)
  | [], acc, c => rfl
  | x :: r, acc, c => valL_snoc r _ c
theorem ofNat_toNat (n : Nat) (h : n < 10) : (UInt8.ofNat (48 + n)).toNat = 48 + n := by
  rw [UInt8.toNat_ofNat']
  omega
theorem dec_all (u : Nat) : ∀ c ∈ decDigits u, isDig c := by
  induction u using Nat.strongRecOn with
  | _ u ih =>
    intro c hc
    rw [decDigits] at hc
    split at hc
    · rename_i h
      rw [List.mem_singleton] at hc
      subst hc
      unfold isDig
      rw [ofNat_toNat u h]
      omega
    · rename_i h
      rw [List.mem_append] at hc
      rcases hc with hc | hc
      · exact ih (u / 10) (by omega) c hc
      · rw [List.mem_singleton] at hc
        subst hc
        unfold isDig
        rw [ofNat_toNat _ (by omega)]
        omega
theorem val_dec (u : Nat) : valL 0 (decDigits u) = u := by
  induction u using Nat.strongRecOn with
  | _ u ih =>
    rw [decDigits]
    split
    · rename_i h
      simp only [valL]
      rw [ofNat_toNat u h]
      omega
    · rename_i h
      rw [valL_snoc, ih (u / 10) (by omega), ofNat_toNat _ (by omega)]
      omega
theorem dec_ne (u : Nat) : decDigits u ≠ [] := by
  rw [decDigits]
  split <;> simp
theorem dec_head (u : Nat) : (decDigits u).length = 1 ∨ ∃ c r, decDigits u = c :: r ∧ c.toNat ≠ 48 := by
  have key : ∀ u, 1 ≤ u → ∃ c r, decDigits u = c :: r ∧ c.toNat ≠ 48 := by
    intro u
    induction u using Nat.strongRecOn with
    | _ u ih =>
      intro hu
      rw [decDigits]
      split
      · rename_i h
        exact ⟨_, [], rfl, by rw [ofNat_toNat u h]; omega⟩
      · rename_i h
        obtain ⟨c, r, e, hc⟩ := ih (u / 10) (by omega) (by omega)
        exact ⟨c, r ++ [UInt8.ofNat (48 + u % 10)], by rw [e]; rfl, hc⟩
  by_cases h : 1 ≤ u
  · exact Or.inr (key u h)
  · obtain rfl : u = 0 := by omega
    left
    rw [decDigits]
    simp
theorem dec_len_le (u n : Nat) (hn : 1 ≤ n) (h : u < 10 ^ n) : (decDigits u).length ≤ n := by
  induction n generalizing u with
  | zero => omega
  | succ n ih =>
    rw [decDigits]
    split
    · simp
    · rename_i h10
      rw [List.length_append, List.length_singleton]
      by_cases h0 : n = 0
      · subst h0
        omega
      · have := ih (u / 10) (by omega) (by rw [Nat.pow_succ] at h; omega)
        omega
end Go.Proofs.YtfimheedecdaiaaDoor

/- Reading an amount that is written: the printed function of money.Parse at the text of any amount that may be. -/

set_option linter.unusedVariables false
set_option linter.unusedSimpArgs false
namespace Go.Proofs.YtfimheedecdaiaaDoor
open Go.RowKit Go.Lib Go.Proofs.YtfimheedecdaiaaDoorW.PrintWords Go.Proofs.YtfimheedecdaiaaDoorW.PrintLast Go.Proofs.YtfimheedecdaiaaDoorW.PrintMore Go.Proofs.YtfimheedecdaiaaDoor.Pr

theorem valL_le : ∀ (l : List UInt8) (acc : Int), 0 ≤ acc → (∀ c ∈ l, isDig c) → acc ≤ valL acc l
  | [], acc, _, _ => Int.le_refl _
  | c :: r, acc, h, hd => by
    have h1 := hd c (List.mem_cons_self ..)
    unfold isDig at h1
    have h2 := valL_le r (10 * acc + ((c.toNat : Int) - 48)) (by omega) (fun x hx => hd x (List.mem_cons_of_mem _ hx))
    simp only [valL]
    omega
theorem digit_at (c : UInt8) (h : isDig c) : money_digit.f (c.toNat : Int) = some true := by
  unfold isDig at h
  unfold money_digit.f
  rw [if_pos (by omega)]
  simp
  omega
theorem whole_at (l : List UInt8) (hd : ∀ c ∈ l, isDig c) (hn : 1 ≤ l.length) (hm : l.length ≤ 1000) (hh : l.length = 1 ∨ bt (bL l) 0 ≠ 48) (hV : valL 0 l ≤ 1000000000000000) : ∀ (m i : Nat) (acc : Int) (k : Nat), m = l.length - i → i ≤ l.length → m < k → 0 ≤ acc → valL acc (l.drop i) = valL 0 l → money_whole.l0 k (bL l) acc (l.length : Int) (i : Int) = some (valL 0 l, true)
  | 0, i, acc, k, hm', hi, hk, ha, hv => by
    obtain ⟨k, rfl⟩ : ∃ k', k = k' + 1 := ⟨k - 1, by omega⟩
    have : i = l.length := by omega
    subst this
    rw [List.drop_length] at hv
    simp only [valL] at hv
    unfold money_whole.l0
    rw [if_neg (by omega), if_neg (by intro h; rw [ByteArray.toList_eq, bL_toList] at h; rw [h] at hn; simp at hn), bL_size]
    subst hv
    rcases hh with h | h
    · rw [if_pos (by omega)]
    · split
      · rfl
      · rw [if_pos (by omega)]
        simp [h]
  | m + 1, i, acc, k, hm', hi, hk, ha, hv => by
    obtain ⟨k, rfl⟩ : ∃ k', k = k' + 1 := ⟨k - 1, by omega⟩
    have hlt : i < l.length := by omega
    have hdi := hd l[i] (List.getElem_mem hlt)
    rw [List.drop_eq_getElem_cons hlt] at hv
    simp only [valL] at hv
    have hdig := hdi
    unfold isDig at hdi
    have hle := valL_le (l.drop (i + 1)) (10 * acc + ((l[i].toNat : Int) - 48)) (by omega) (fun x hx => hd x (List.mem_of_mem_drop hx))
    rw [hv] at hle
    unfold money_whole.l0
    rw [if_pos (by omega), if_pos (by omega), bL_size, if_pos (by omega), bt_bL l i hlt, digit_at _ hdig]
    rw [Option.bind_some, if_pos rfl, wrap64_id (x := 10 * acc) (by omega) (by omega), wrap64_id (x := (i : Int) + 1) (by omega) (by omega), show ((l[i].toNat : Int) - 48) % 256 = (l[i].toNat : Int) - 48 from by omega, wrap64_id (by omega) (by omega)]
    exact whole_at l hd hn hm hh hV m (i + 1) _ k (by omega) (by omega) (by omega) (by omega) hv
theorem whole_f (l : List UInt8) (hd : ∀ c ∈ l, isDig c) (hn : 1 ≤ l.length) (hm : l.length ≤ 12) (hh : l.length = 1 ∨ bt (bL l) 0 ≠ 48) (hV : valL 0 l ≤ 1000000000000000) (k : Nat) (hk : 13 ≤ k) : money_whole.f k (bL l) = some (valL 0 l, true) := by
  unfold money_whole.f
  rw [bL_size]
  exact whole_at l hd hn (by omega) hh hV l.length 0 0 k (by omega) (by omega) (by omega) (by omega) rfl
theorem two_digits (n : Nat) (h : n < 100) : ∃ t1 t2 : UInt8, ((if n < 10 then [48] else []) ++ decDigits n : List UInt8) = [t1, t2] ∧ isDig t1 ∧ isDig t2 ∧ ((t1.toNat : Int) - 48) * 10 + ((t2.toNat : Int) - 48) = n := by
  by_cases h10 : n < 10
  · refine ⟨48, UInt8.ofNat (48 + n), ?_, ⟨by decide, by decide⟩, ?_, ?_⟩
    · rw [decDigits, dif_pos h10, if_pos h10]
      rfl
    · unfold isDig; rw [ofNat_toNat n h10]; omega
    · rw [ofNat_toNat n h10]
      show ((48 : Int) - 48) * 10 + _ = _
      omega
  · have e : decDigits n = [UInt8.ofNat (48 + n / 10), UInt8.ofNat (48 + n % 10)] := by
      rw [decDigits, dif_neg h10, decDigits, dif_pos (by omega)]
      rfl
    refine ⟨UInt8.ofNat (48 + n / 10), UInt8.ofNat (48 + n % 10), ?_, ?_, ?_, ?_⟩
    · rw [if_neg h10, e]; rfl
    · unfold isDig; rw [ofNat_toNat _ (by omega)]; omega
    · unfold isDig; rw [ofNat_toNat _ (by omega)]; omega
    · rw [ofNat_toNat _ (by omega), ofNat_toNat _ (by omega)]; omega

end Go.Proofs.YtfimheedecdaiaaDoor

/- money.Parse, walked at digits with a point and two digits behind it, with a sign or without. -/
set_option linter.unusedVariables false
set_option linter.unusedSimpArgs false
namespace Go.Proofs.YtfimheedecdaiaaDoor
open Go.RowKit Go.Lib Go.Proofs.YtfimheedecdaiaaDoorW.PrintWords Go.Proofs.YtfimheedecdaiaaDoorW.PrintLast Go.Proofs.YtfimheedecdaiaaDoorW.PrintMore Go.Proofs.YtfimheedecdaiaaDoor.Pr

theorem bt_nat (s : ByteArray) (i : Nat) (h : i < s.size) : ((s[i]'h).toNat : Int) = bt s (i : Int) := by
  have := bt_at s (i : Int) (by rwa [Int.toNat_natCast])
  simpa only [Int.toNat_natCast] using this

theorem check_ok (x : Int) (h : -100000000000 ≤ x ∧ x ≤ 100000000000) (w : World) : Calls Tryd.prog 54 #[.int .i64 x] w fun e w' => e = .returned (.tuple #[.int .i64 x, .int .i64 0]) ∧ Below w.heap.size w w' := by
  have := money_check.calls 3 x _ _ w (check_eq _ 3 (by omega))
  rw [(okA_iff x).2 h] at this
  exact this
theorem tup2i {a b a' b' : Int} (h : a = a') (h' : b = b') : Ending.returned (.tuple #[.int .i64 a, .int .i64 b]) = Ending.returned (.tuple #[.int .i64 a', .int .i64 b']) := by rw [h, h']
set_option maxHeartbeats 1600000 in
set_option maxRecDepth 100000 in
theorem parse_pos (s D : ByteArray) (m : Nat) (d1 d2 q : Int) (hs : s.size = m + 3) (hm1 : 1 ≤ m) (hm2 : m ≤ 12) (h46 : bt s (m : Int) = 46) (h1 : bt s ((m : Int) + 1) = d1) (h2 : bt s ((m : Int) + 2) = d2)
    (g1 : 48 ≤ d1) (g1' : d1 ≤ 57) (g2 : 48 ≤ d2) (g2' : d2 ≤ 57) (hx : s.extract 0 m = D) (hD : D.size = m) (hw : money_whole.f 20 D = some (q, true)) (hq0 : 0 ≤ q) (hq : q * 100 + ((d1 - 48) * 10 + (d2 - 48)) ≤ 100000000000) (hb : bt s 0 ≠ 45) (w : World) :
    Calls Tryd.prog 41 #[.string s] w fun e w' => e = .returned (.tuple #[.int .i64 (q * 100 + ((d1 - 48) * 10 + (d2 - 48))), .int .i64 0]) ∧ Below w.heap.size w w' := by
  have hsI : (s.size : Int) = m + 3 := by omega
  have hbb : (bt s 0 == 45) = false := by simpa using hb
  have f0 : ∀ h : 0 < s.size, ((s[0]'h).toNat : Int) = bt s 0 := bt_at s 0
  have p0 : (0 < s.size) = True := eq_true (by omega)
  have pi0 : (0 < (s.size : Int)) = True := eq_true (by omega)
  have fm : ∀ h : m < s.size, ((s[m]'h).toNat : Int) = 46 := fun h => by rw [bt_nat s m h, h46]
  have fm1 : ∀ h : m + 1 < s.size, ((s[m + 1]'h).toNat : Int) = d1 := fun h => by rw [bt_nat s (m + 1) h, ← h1]; rfl
  have fm2 : ∀ h : m + 2 < s.size, ((s[m + 2]'h).toNat : Int) = d2 := fun h => by rw [bt_nat s (m + 2) h, ← h2]; rfl
  have pm : (m < s.size) = True := eq_true (by omega)
  have pm1 : (m + 1 < s.size) = True := eq_true (by omega)
  have pm2 : (m + 2 < s.size) = True := eq_true (by omega)
  have hDI : (D.size : Int) = m := by omega
  have HW := Lib.hid hw
  have hd1 : money_digit.f d1 = some true := by unfold money_digit.f; rw [if_pos (by omega)]; simp; omega
  have hd2 : money_digit.f d2 = some true := by unfold money_digit.f; rw [if_pos (by omega)]; simp; omega
  have HD1 := Lib.hid hd1
  have HD2 := Lib.hid hd2
  clear h46 h1 h2 hb hd1 hd2 hw
  go_enter Tryd.func41, Tryd.ntmps41
  go_wp2_with fail
  refine (money_digit.calls d1 true _ HD1.out).mono ?_
  rintro e w1 ⟨rfl, ⟨n1, rfl⟩⟩
  go_wp2_with fail
  refine (money_digit.calls d2 true _ HD2.out).mono ?_
  rintro e w1 ⟨rfl, ⟨n2, rfl⟩⟩
  go_wp2_with fail
  go_quiet (fail)
  go_wp2_with fail
  refine (money_whole.calls 20 D q true _ HW.out).mono ?_
  rintro e w1 ⟨rfl, ⟨n3, rfl⟩⟩
  go_wp2_with fail
  refine (check_ok _ (by omega) _).mono ?_
  rintro e w1 ⟨rfl, hb1⟩
  go_wp2_with fail
  go_ret2
  exact ⟨tup2i (by omega) rfl, bnext (pw_below_drewN (Below.refl _ _) _) hb1⟩

set_option maxHeartbeats 1600000 in
set_option maxRecDepth 100000 in
theorem parse_neg (s' : ByteArray) (s D : ByteArray) (m : Nat) (d1 d2 q : Int) (hs : s.size = m + 3) (hm1 : 1 ≤ m) (hm2 : m ≤ 12) (h46 : bt s (m : Int) = 46) (h1 : bt s ((m : Int) + 1) = d1) (h2 : bt s ((m : Int) + 2) = d2)
    (g1 : 48 ≤ d1) (g1' : d1 ≤ 57) (g2 : 48 ≤ d2) (g2' : d2 ≤ 57) (hx : s.extract 0 m = D) (hD : D.size = m) (hw : money_whole.f 20 D = some (q, true)) (hq0 : 0 ≤ q) (hq : q * 100 + ((d1 - 48) * 10 + (d2 - 48)) ≤ 100000000000) (hs' : s'.size = m + 4) (hb : bt s' 0 = 45) (hx' : s'.extract 1 s'.size = s) (hnz : ¬ (q = 0 ∧ (d1 - 48) * 10 + (d2 - 48) = 0)) (w : World) :
    Calls Tryd.prog 41 #[.string s'] w fun e w' => e = .returned (.tuple #[.int .i64 (- (q * 100 + ((d1 - 48) * 10 + (d2 - 48)))), .int .i64 0]) ∧ Below w.heap.size w w' := by
  have hsI : (s.size : Int) = m + 3 := by omega
  have hsI' : (s'.size : Int) = m + 4 := by omega
  rw [hs'] at hx'
  have hbb : (bt s' 0 == 45) = true := by simpa using hb
  have f0 : ∀ h : 0 < s'.size, ((s'[0]'h).toNat : Int) = bt s' 0 := bt_at s' 0
  have p0 : (0 < s'.size) = True := eq_true (by omega)
  have pi0 : (0 < (s'.size : Int)) = True := eq_true (by omega)
  have fm : ∀ h : m < s.size, ((s[m]'h).toNat : Int) = 46 := fun h => by rw [bt_nat s m h, h46]
  have fm1 : ∀ h : m + 1 < s.size, ((s[m + 1]'h).toNat : Int) = d1 := fun h => by rw [bt_nat s (m + 1) h, ← h1]; rfl
  have fm2 : ∀ h : m + 2 < s.size, ((s[m + 2]'h).toNat : Int) = d2 := fun h => by rw [bt_nat s (m + 2) h, ← h2]; rfl
  have pm : (m < s.size) = True := eq_true (by omega)
  have pm1 : (m + 1 < s.size) = True := eq_true (by omega)
  have pm2 : (m + 2 < s.size) = True := eq_true (by omega)
  have hDI : (D.size : Int) = m := by omega
  have HW := Lib.hid hw
  have hd1 : money_digit.f d1 = some true := by unfold money_digit.f; rw [if_pos (by omega)]; simp; omega
  have hd2 : money_digit.f d2 = some true := by unfold money_digit.f; rw [if_pos (by omega)]; simp; omega
  have HD1 := Lib.hid hd1
  have HD2 := Lib.hid hd2
  clear h46 h1 h2 hb hd1 hd2 hw
  go_enter Tryd.func41, Tryd.ntmps41
  go_wp2_with fail
  go_quiet (fail)
  go_wp2_with fail
  refine (money_digit.calls d1 true _ HD1.out).mono ?_
  rintro e w1 ⟨rfl, ⟨n1, rfl⟩⟩
  go_wp2_with fail
  refine (money_digit.calls d2 true _ HD2.out).mono ?_
  rintro e w1 ⟨rfl, ⟨n2, rfl⟩⟩
  go_wp2_with fail
  go_quiet (fail)
  go_wp2_with fail
  refine (money_whole.calls 20 D q true _ HW.out).mono ?_
  rintro e w1 ⟨rfl, ⟨n3, rfl⟩⟩
  go_wp2_with fail
  all_goals
    refine (check_ok _ (by omega) _).mono ?_
    rintro e w1 ⟨rfl, hb1⟩
    go_wp2_with fail
    go_ret2
    exact ⟨tup2i (by omega) rfl, bnext (pw_below_drewN (Below.refl _ _) _) hb1⟩

theorem parse_any (x : Int) (hx : okA x = true) (w : World) : Calls Tryd.prog 41 #[.string (textB x)] w fun e w' => e = .returned (.tuple #[.int .i64 x, .int .i64 0]) ∧ Below w.heap.size w w' := by
  rw [okA_iff] at hx
  obtain ⟨t1, t2, ht, g1, g2, g3⟩ := two_digits (x.natAbs % 100) (by omega)
  have hT : textL x = (if x < 0 then [45] else []) ++ (decDigits (x.natAbs / 100) ++ [46, t1, t2]) := by
    unfold textL
    rw [ht]
  have hall := dec_all (x.natAbs / 100)
  have hval := val_dec (x.natAbs / 100)
  have hlen := dec_len_le (x.natAbs / 100) 10 (by omega) (by omega)
  have hne := dec_ne (x.natAbs / 100)
  have hhead := dec_head (x.natAbs / 100)
  generalize hD : decDigits (x.natAbs / 100) = D at *
  have hn : 1 ≤ D.length := by
    cases D with
    | nil => exact absurd rfl hne
    | cons _ _ => simp
  have hh : D.length = 1 ∨ bt (bL D) 0 ≠ 48 := by
    rcases hhead with h | ⟨c, r, e, hc⟩
    · exact Or.inl h
    · right
      have := bt_bL D 0 (by omega)
      rw [show (0 : Int) = ((0 : Nat) : Int) from rfl, this]
      subst e
      simp
      omega
  clear hhead
  have hs : (bL (D ++ [46, t1, t2])).size = D.length + 3 := by rw [bL_size]; simp
  have hb0 : bt (bL (D ++ [46, t1, t2])) (D.length : Int) = 46 := by
    rw [bt_bL _ _ (by simp)]
    simp
  have hb1 : bt (bL (D ++ [46, t1, t2])) ((D.length : Int) + 1) = (t1.toNat : Int) := by
    have := bt_bL (D ++ [46, t1, t2]) (D.length + 1) (by simp)
    rw [show ((D.length : Int) + 1) = ((D.length + 1 : Nat) : Int) from by omega, this]
    simp [List.getElem_append_right]
  have hb2 : bt (bL (D ++ [46, t1, t2])) ((D.length : Int) + 2) = (t2.toNat : Int) := by
    have := bt_bL (D ++ [46, t1, t2]) (D.length + 2) (by simp)
    rw [show ((D.length : Int) + 2) = ((D.length + 2 : Nat) : Int) from by omega, this]
    simp [List.getElem_append_right]
  have hx0 : (bL (D ++ [46, t1, t2])).extract 0 D.length = bL D := by
    rw [extract_bL]
    simp
  have hw := whole_f D hall hn (by omega) hh (by omega) 20 (by omega)
  rw [hval] at hw
  unfold isDig at g1 g2
  by_cases hneg : x < 0
  · rw [if_pos hneg] at hT
    have e : textB x = bL (45 :: (D ++ [46, t1, t2])) := by unfold textB bL; rw [hT]; rfl
    rw [e]
    have hs' : (bL (45 :: (D ++ [46, t1, t2]))).size = D.length + 4 := by rw [bL_size]; simp
    have hb : bt (bL (45 :: (D ++ [46, t1, t2]))) 0 = 45 := by
      have := bt_bL (45 :: (D ++ [46, t1, t2])) 0 (by simp)
      rw [show (0 : Int) = ((0 : Nat) : Int) from rfl, this]
      rfl
    have hx1 : (bL (45 :: (D ++ [46, t1, t2]))).extract 1 (bL (45 :: (D ++ [46, t1, t2]))).size = bL (D ++ [46, t1, t2]) := by
      rw [extract_bL, hs', List.take_of_length_le (by simp)]
      rfl
    refine (parse_neg _ _ _ D.length _ _ _ hs hn (by omega) hb0 hb1 hb2 (by omega) (by omega) (by omega) (by omega) hx0 (bL_size D) hw (by omega) (by omega) hs' hb hx1 (by omega) w).mono ?_
    rintro e w1 ⟨rfl, h⟩
    exact ⟨tup2i (by omega) rfl, h⟩
  · rw [if_neg hneg] at hT
    have e : textB x = bL (D ++ [46, t1, t2]) := by unfold textB bL; rw [hT]; rfl
    rw [e]
    have hb : bt (bL (D ++ [46, t1, t2])) 0 ≠ 45 := by
      have := bt_bL (D ++ [46, t1, t2]) 0 (by simp)
      rw [show (0 : Int) = ((0 : Nat) : Int) from rfl, this]
      cases D with
      | nil => exact absurd rfl hne
      | cons d r =>
        have := hall d (List.mem_cons_self ..)
        unfold isDig at this
        simp
        omega
    refine (parse_pos _ _ D.length _ _ _ hs hn (by omega) hb0 hb1 hb2 (by omega) (by omega) (by omega) (by omega) hx0 (bL_size D) hw (by omega) (by omega) hb w).mono ?_
    rintro e w1 ⟨rfl, h⟩
    exact ⟨tup2i (by omega) rfl, h⟩
end Go.Proofs.YtfimheedecdaiaaDoor
