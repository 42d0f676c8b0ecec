/- What holds behind each period: of each order what it took and its arrears are all that it ordered (plain Lean, and a map's reading). -/
import Derived.Test.YtkeokccafbjmoaaPeriod
import Derived.Maps.Own
import Derived.Maps.OwnOps
import Derived.Maps.Views
set_option linter.unusedVariables false
set_option linter.unusedSimpArgs false
namespace Go.Proofs.Ytkeokccafbjmoaa
open Go Go.RowKit Go.Lib Go.Maps Go.Proofs.YtkeokccafbjmoaaW.PrintWords Go.Proofs.YtkeokccafbjmoaaW.PrintLast Go.Proofs.YtkeokccafbjmoaaW.PrintMore Go.Proofs.Ytkeokccafbjmoaa.Pr

theorem errL_cases (net : Int) : ∀ l : List S31, (∀ s ∈ l, goodS s) → errL net l = 0 ∨ errL net l = 10
  | [], _ => .inl rfl
  | s :: r, h => by
    rw [errL]
    by_cases hn : oneE net s = 0
    · rw [if_pos hn]
      exact errL_cases net r (fun x hx => h x (by simp [hx]))
    · rw [if_neg hn]
      rcases oneE_iff s net (h s (by simp)) with ⟨h1, _⟩ | ⟨h1, _⟩
      · exact absurd h1 hn
      · exact .inr h1
theorem servE_ten (net prot : Int) (l : List S31) (h0 : -100000000000 ≤ net) (h1 : net ≤ 100000000000) (hp : 0 ≤ prot) (hp1 : prot ≤ 100000000000) (hg : GB l) : servE net prot l = 0 ∨ servE net prot l = 10 := by
  unfold servE
  rw [(okA_iff net).2 ⟨h0, h1⟩, (okA_iff prot).2 ⟨by omega, hp1⟩, if_pos (by decide), if_neg (by omega)]
  exact errL_cases net l (goods_of l (fun j hj => hg.good j hj))
theorem bookE_ten (net prot : Int) (l : List S31) (h0 : -100000000000 ≤ net) (h1 : net ≤ 100000000000) (hp : 0 ≤ prot) (hp1 : prot ≤ 100000000000) (hg : GB l) : bookE net prot l = 0 ∨ bookE net prot l = 10 := by
  rcases period net prot l hg with ⟨p1, p2, _⟩ | ⟨_, p2, _⟩ | ⟨_, p2, _⟩
  · rw [p2]; exact servE_ten net prot l h0 h1 hp hp1 hg
  · exact .inr p2
  · exact .inl p2
/-- What a period that is served tells of each order: what is ordered is what is taken and carried, without what was brought. -/
theorem served_sum (net prot : Int) (l : List S31) (hg : GB l) (hs : servE net prot l = 0) (i : Nat) (hi : i < l.length) :
    (rd_T43 (servO net prot l) i).f0 = (rd_T31 l i).f0.f0 ∧ (rd_T31 l i).f2 + (rd_T43 (servO net prot l) i).f2 = (rd_T43 (servO net prot l) i).f4 + (rd_T43 (servO net prot l) i).f5 ∧
    0 ≤ (rd_T43 (servO net prot l) i).f2 ∧ (rd_T43 (servO net prot l) i).f2 ≤ 100000000000 := by
  obtain ⟨o1, o2, o3, o4⟩ := servE_zero net prot l hs
  rw [okA_iff] at o1 o2
  have e1 : servO net prot l = outs net prot net l := by simp [servO, hs]
  have hlen : (servO net prot l).length = l.length := by rw [e1]; exact outs_length net prot net l
  have hgs : ∀ s ∈ l, goodS s := goods_of l (fun j hj => hg.good j hj)
  have key : ∀ i : Nat, i ≤ l.length → ∃ lf, (servO net prot l).drop i = outs net prot lf (l.drop i) ∧ errL net (l.drop i) = 0 ∧ -100000000000 ≤ lf ∧ lf ≤ 100000000000 := by
    intro i
    induction i with
    | zero => intro _; exact ⟨net, by rw [e1]; simp, by simpa using o4, o1.1, o1.2⟩
    | succ i ih =>
      intro hi
      obtain ⟨lf, q1, q2, q3, q4⟩ := ih (by omega)
      obtain ⟨_, _, _, _, _, _, _, _, lf', g1, g2, g3, g4, _⟩ := outs_step net prot lf ⟨o3, o2.2⟩ q3 q4 l _ i (by omega) hlen hgs q2 q1
      exact ⟨lf', g1, g2, g3, g4⟩
  obtain ⟨lf, q1, q2, q3, q4⟩ := key i (by omega)
  obtain ⟨f0, f1, f2, f3, f4, f5, f6, _⟩ := outs_step net prot lf ⟨o3, o2.2⟩ q3 q4 l _ i hi hlen hgs q2 q1
  exact ⟨f0, by omega, f4.1, f4.2⟩
/-- What a period leaves, and what orders took together. -/
theorem served_left (net prot : Int) (l : List S31) (hg : GB l) (hs : servE net prot l = 0) :
    sumF (servO net prot l) = net - servL net prot l ∧ min net prot ≤ servL net prot l ∧ servL net prot l ≤ net ∧ -100000000000 ≤ servL net prot l ∧ (∀ x ∈ servO net prot l, 0 ≤ x.f4) := by
  obtain ⟨o1, o2, o3, o4⟩ := servE_zero net prot l hs
  rw [okA_iff] at o1 o2
  have e1 : servO net prot l = outs net prot net l := by simp [servO, hs]
  have e2 : servL net prot l = rest net prot net l := by simp [servL, hs]
  obtain ⟨g1, g2, g3, g4⟩ := outs_facts net prot ⟨o3, o2.2⟩ l net o1.1 o1.2 (goods_of l (fun j hj => hg.good j hj)) o4
  rw [e1, e2]
  exact ⟨g1, g2, g3, by omega, g4⟩

/-- What the map tells of a number. -/
def at0 {H : Type} (D : DataW H) (n v : Int) : Prop := D.atKey (.int .i64 n) (.lit (.int .i64 0)) = .lit (.int .i64 v)
theorem at0_put {H : Type} {D : DataW H} (hD : IsMap D) (n v : Int) : at0 (D.put (.int .i64 n) (.lit (.int .i64 v))) n v := atKey_put_same hD (show WideAt.IsKeyLit (.int .i64 n) from trivial) _ _
theorem at0_other {H : Type} {D : DataW H} {n n' v v' : Int} (hne : n' ≠ n) (h : at0 D n' v') : at0 (D.put (.int .i64 n) (.lit (.int .i64 v))) n' v' := by
  unfold at0
  rw [atKey_put_other (by intro e; injection e with _ e; exact hne e)]
  exact h
end Go.Proofs.Ytkeokccafbjmoaa
