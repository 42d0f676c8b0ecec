/- Words in lines, in plain Lean: how a line is cut (byte by byte), how a word is quoted and words are joined, and that words that are joined are cut into themselves. -/
import Derived.Lib.Hide
set_option linter.unusedVariables false
namespace Go.Proofs.YthlmphnkphlfkaaDoor

/-- May a byte be in a word without quotes? Within quotes? -/
def plainC (c : UInt8) : Bool := decide (32 < c.toNat) && decide (c.toNat < 127) && decide (c.toNat ≠ 34) && decide (c.toNat ≠ 35)
def shownC (c : UInt8) : Bool := decide (32 ≤ c.toNat) && decide (c.toNat < 127) && decide (c.toNat ≠ 34)
theorem plain_shown {c : UInt8} (h : plainC c = true) : shownC c = true := by
  simp [plainC, shownC] at h ⊢
  omega

/-- Where a line's reader stands: between words, within one, within quotes, behind a word. -/
inductive CutAt where
  | between
  | within (cur : List UInt8)
  | quoted (cur : List UInt8)
  | behind

def cutS : CutAt → List ByteArray → List UInt8 → Int × List ByteArray
  | .between, out, [] => (0, out)
  | .between, out, c :: r => if c.toNat = 35 then (0, out) else if c.toNat = 32 then cutS .between out r else if out.length = 32 then (2, []) else if c.toNat = 34 then cutS (.quoted []) out r else if plainC c then cutS (.within [c]) out r else (5, [])
  | .within cur, out, [] => (0, out ++ [⟨cur.toArray⟩])
  | .within cur, out, c :: r => if plainC c then cutS (.within (cur ++ [c])) out r else if c.toNat = 32 then cutS .between (out ++ [⟨cur.toArray⟩]) r else if c.toNat = 35 then (0, out ++ [⟨cur.toArray⟩]) else (5, [])
  | .quoted cur, out, [] => (5, [])
  | .quoted cur, out, c :: r => if shownC c then cutS (.quoted (cur ++ [c])) out r else if c.toNat = 34 then cutS .behind (out ++ [⟨cur.toArray⟩]) r else (5, [])
  | .behind, out, [] => (0, out)
  | .behind, out, c :: r => if c.toNat = 32 then cutS .between out r else if c.toNat = 35 then (0, out) else (5, [])

/-- What Cut answers: the error's number, the words. -/
def cutF (l : List UInt8) : Int × List ByteArray := if 512 < l.length then (2, []) else cutS .between [] l

theorem cut_behind (cur : List UInt8) (out : List ByteArray) : ∀ r : List UInt8, (∀ c t, r = c :: t → plainC c = false) → cutS (.within cur) out r = cutS .behind (out ++ [⟨cur.toArray⟩]) r
  | [], _ => rfl
  | c :: t, h => by
    have := h c t rfl
    simp [cutS, this]
theorem cut_within (cur : List UInt8) (out : List ByteArray) (r : List UInt8) : ∀ w : List UInt8, w.all plainC = true → cutS (.within cur) out (w ++ r) = cutS (.within (cur ++ w)) out r := by
  intro w
  induction w generalizing cur with
  | nil => intro _; simp
  | cons c t ih =>
    intro h
    simp only [List.all_cons, Bool.and_eq_true] at h
    rw [List.cons_append, cutS, if_pos h.1, ih _ h.2, List.append_assoc]
    rfl
theorem cut_quoted (cur : List UInt8) (out : List ByteArray) (r : List UInt8) : ∀ w : List UInt8, w.all shownC = true → cutS (.quoted cur) out (w ++ r) = cutS (.quoted (cur ++ w)) out r := by
  intro w
  induction w generalizing cur with
  | nil => intro _; simp
  | cons c t ih =>
    intro h
    simp only [List.all_cons, Bool.and_eq_true] at h
    rw [List.cons_append, cutS, if_pos h.1, ih _ h.2, List.append_assoc]
    rfl

/-- A word as it stands in a line. -/
def bareW (w : List UInt8) : Bool := !w.isEmpty && w.all plainC
def quoteL (w : List UInt8) : List UInt8 := if bareW w = true then w else 34 :: (w ++ [34])
theorem cut_word (w : List UInt8) (hw : w.all shownC = true) (out : List ByteArray) (ho : out.length < 32) (r : List UInt8) (hr : ∀ c t, r = c :: t → c.toNat = 32) :
    cutS .between out (quoteL w ++ r) = cutS .behind (out ++ [⟨w.toArray⟩]) r := by
  unfold quoteL
  split
  · rename_i h
    cases w with
    | nil => simp [bareW] at h
    | cons c t =>
      simp only [bareW, List.isEmpty_cons, Bool.not_false, Bool.true_and, List.all_cons, Bool.and_eq_true] at h
      have hp := h.1
      simp [plainC] at hp
      rw [List.cons_append, cutS, if_neg (by omega), if_neg (by omega), if_neg (by omega), if_neg (by omega), if_pos h.1, cut_within _ _ _ _ h.2, cut_behind]
      · rfl
      · intro d u e
        have := hr d u e
        simp [plainC, this]
  · rw [List.cons_append, cutS, if_neg (by decide), if_neg (by decide), if_neg (by omega), if_pos (by decide), List.append_assoc, cut_quoted _ _ _ _ hw, List.nil_append, List.singleton_append, cutS, if_neg (by decide), if_pos (by decide)]

/-- Words behind a word, as they are joined; words as a line. -/
def joinT : List ByteArray → List UInt8
  | [] => []
  | w :: r => 32 :: (quoteL w.data.toList ++ joinT r)
def joinL : List ByteArray → List UInt8
  | [] => []
  | w :: r => quoteL w.data.toList ++ joinT r
theorem joinT_head (ws : List ByteArray) : ∀ c t, joinT ws = c :: t → c.toNat = 32 := by
  intro c t h
  cases ws with
  | nil => cases h
  | cons w r =>
    simp only [joinT] at h
    injection h with h _
    subst h
    rfl
theorem cut_join : ∀ (ws : List ByteArray) (out : List ByteArray), (∀ w ∈ ws, w.data.toList.all shownC = true) → out.length + ws.length ≤ 32 → cutS .behind out (joinT ws) = (0, out ++ ws)
  | [], out, _, _ => by simp [joinT, cutS]
  | w :: r, out, h, hl => by
    simp only [List.length_cons] at hl
    rw [joinT, cutS, if_pos (by decide), cut_word _ (h w (by simp)) _ (by omega) _ (joinT_head r), cut_join r _ (fun x hx => h x (List.mem_cons_of_mem _ hx)) (by simp; omega)]
    simp
theorem cut_joined (ws : List ByteArray) (h : ∀ w ∈ ws, w.data.toList.all shownC = true) (hl : ws.length ≤ 32) (h512 : (joinL ws).length ≤ 512) : cutF (joinL ws) = (0, ws) := by
  unfold cutF
  rw [if_neg (by omega)]
  cases ws with
  | nil => rfl
  | cons w r =>
    rw [joinL, cut_word _ (h w (by simp)) _ (by simp) _ (joinT_head r), cut_join r _ (fun x hx => h x (List.mem_cons_of_mem _ hx)) (by simp at hl ⊢; omega)]
    simp
#print axioms cut_joined
end Go.Proofs.YthlmphnkphlfkaaDoor
