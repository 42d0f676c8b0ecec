/- The words of the law's operations (an order is put in, or cancelled); rows of orders that a call owns; append as a step of a region that draws. -/
import Derived.Test.YtfimheedecdaiaaDoorG4
import Derived.Deep.RegionLaw
set_option linter.unusedVariables false
set_option linter.unusedSimpArgs false
namespace Go.Proofs.YtfimheedecdaiaaDoor.Pr
open Go.RowKit Go.Proofs.YtfimheedecdaiaaDoorW.PrintWords Go.Proofs.YtfimheedecdaiaaDoorW.PrintLast Go.Proofs.YtfimheedecdaiaaDoorW.PrintMore
structure S31 where
  f0 : S29
  f1 : Bool
def z31 : S31 := ⟨z29, false⟩
def k31 : Kd S31 := Kd.iso (Kd.pair k29 Kd.bool) (fun x : S31 => (x.f0, x.f1))
theorem k31_open {w : World} {x : S31} {cs : List Value} (h : k31.K w x cs) : cs = [.int .i64 x.f0.f0, .int .i64 x.f0.f1, .int .i64 x.f0.f2, .int .i64 x.f0.f3, .int .i64 x.f0.f4, .bool x.f1] := by
  obtain ⟨_, _, rfl, s0, rfl⟩ := h
  obtain rfl := k29_open s0
  exact rfl
def rd_T31 (xs : List S31) (i : Int) : S31 := xs.getD i.toNat z31
theorem at_T31 {w : World} {A : Option Addr} {n : Nat} {xs : List S31} (h : Kd.C k31 w A n xs) (i : Int) (h0 : 0 ≤ i) (h1 : i < n) : ∃ ad , A = some ad ∧ w.cell? (ad.add (i.toNat * 6)) = some (.int .i64 (rd_T31 xs i).f0.f0) ∧ w.cell? ⟨(ad.add (i.toNat * 6)).block, (ad.add (i.toNat * 6)).off + 1, none⟩ = some (.int .i64 (rd_T31 xs i).f0.f1) ∧ w.cell? ⟨(ad.add (i.toNat * 6)).block, (ad.add (i.toNat * 6)).off + 2, none⟩ = some (.int .i64 (rd_T31 xs i).f0.f2) ∧ w.cell? ⟨(ad.add (i.toNat * 6)).block, (ad.add (i.toNat * 6)).off + 3, none⟩ = some (.int .i64 (rd_T31 xs i).f0.f3) ∧ w.cell? ⟨(ad.add (i.toNat * 6)).block, (ad.add (i.toNat * 6)).off + 4, none⟩ = some (.int .i64 (rd_T31 xs i).f0.f4) ∧ w.cell? ⟨(ad.add (i.toNat * 6)).block, (ad.add (i.toNat * 6)).off + 5, none⟩ = some (.bool (rd_T31 xs i).f1) := by
  obtain ⟨ad, c, e, _, hK, hc0⟩ := Kd.C_get h z31 i h0 h1
  have hc : ∀ j u, c[j]? = some u → w.cell? (ad.add (i.toNat * 6 + j)) = some u := hc0
  obtain rfl := k31_open hK
  exact ⟨ad, e, hc 0 _ rfl, by rw [← add_field _ _ 1 (by omega)]; exact hc 1 _ rfl, by rw [← add_field _ _ 2 (by omega)]; exact hc 2 _ rfl, by rw [← add_field _ _ 3 (by omega)]; exact hc 3 _ rfl, by rw [← add_field _ _ 4 (by omega)]; exact hc 4 _ rfl, by rw [← add_field _ _ 5 (by omega)]; exact hc 5 _ rfl⟩
end Go.Proofs.YtfimheedecdaiaaDoor.Pr
namespace Go.Proofs.YtfimheedecdaiaaDoor
open Go Go.RowKit Go.Lib Go.Shelf Go.Proofs.YtfimheedecdaiaaDoorW.PrintWords Go.Proofs.YtfimheedecdaiaaDoorW.PrintLast Go.Proofs.YtfimheedecdaiaaDoorW.PrintMore Go.Proofs.YtfimheedecdaiaaDoor.Pr
theorem flatO : FlatKd k29 cellsO := by
  refine ⟨fun _ => rfl, fun x u hu => ?_, fun w x cs => ⟨fun h => k29_open h, fun h => by subst h; exact k29_mk w x⟩, fun w base ok x => k29_mkM w base ok x, by decide⟩
  simp only [cellsO, List.mem_cons, List.not_mem_nil, or_false] at hu
  rcases hu with rfl | rfl | rfl | rfl | rfl <;> rfl
theorem infoO : (Tryd.prog.info? 29).map (fun i => (i.zero, i.size, i.bytes)) = some (some (.agg #[.int .i64 0, .int .i64 0, .int .i64 0, .int .i64 0, .int .i64 0]), 5, 40) := by kernel_rfl

/-- A row of the call's own, as a slice that is read. -/
theorem own_CG {α : Type} {d : Kd α} {f : α → List Value} (h : FlatKd d f) {w : World} {base n : Nat} {e : TypeId} {v : Value} {l : List α} (ho : w.ownsRow base e d.sz v n (l.flatMap f)) (hn : l.length = n) :
    ∃ A c, v = .slice A l.length c ∧ (l.length ≤ c ∧ c ≤ 9223372036854775807) ∧ Kd.C d w A l.length l ∧ (A = none → c = 0) ∧ ∀ ad, A = some ad → base ≤ ad.block ∧ ad.block < w.heap.size := by
  obtain ⟨A, c, hv, hc, hC⟩ := Kd.R_reads (flat_own (e := e) h ho hn)
  have h2 := ho.2
  refine ⟨A, c, hv, ⟨hc, ?_⟩, hC, ?_, fun ad had => ?_⟩
  · rcases h2 with ⟨e, _⟩ | ⟨g, cap, cur, e, _, _, _, hm, _⟩
    · rw [hv] at e
      injection e with e1 e2 e3
      omega
    · rw [hv] at e
      injection e with e1 e2 e3
      rw [e3]
      exact hm
  · intro hn
    rcases h2 with ⟨e, _⟩ | ⟨g, cap, cur, e, _, _, _, hm, _⟩
    · rw [hv] at e
      injection e with e1 e2 e3
    · rw [hv, hn] at e
      injection e with e1 e2 e3
      cases e1
  subst had hv
  exact ho.lt ad.block rfl

/-- append onto a row of the call's own, as one step of a region that draws. -/
theorem step_append_own {P : Program} {ops : Array Oper} {o : Oper} {a : Act} {w : World} {K : Act → World → Prop} {Q : Exit → Act → World → Prop} {E : Prop} (hgd : o.guard = none) (s x : Operand) (t : TypeId)
    (ho : o.op = .call { callee := .builtin .append, args := #[s, x], argTypes := #[t, t] })
    (base : Nat) (e : TypeId) (i : TypeInfo) (z : Value) (size bytes : Nat) (ht : P.underlying t = some (.slice e)) (hi : P.info? e = some i) (hz : i.zero = some z)
    (hsize : i.size = size) (hby : i.bytes = bytes) (hzs : z.cells.size = size) (hsz : 0 < size)
    (v : Value) (n : Nat) (xs : List Value) (hs : a.eval s = v) (hown : w.ownsRow base e size v n xs)
    (ad : Addr) (m c : Nat) (news : List Value) (hx : a.eval x = .slice (some ad) m c) (hl : news.length = m * size) (hnews : ∀ j u, news[j]? = some u → w.cell? (ad.add j) = some u) (h1 : ∀ u ∈ news, u.oneCell' = true)
    (h63 : n + m ≤ maxLen) (hbytes : (n + m) * bytes ≤ 140737488355328) (hbase : base ≤ w.heap.size) (w0 : World) (hb : Below w0.heap.size w0 w) (hB0 : w0.heap.size ≤ base)
    (h : ∀ v' w', Hid (w'.ownsRow base e size v' (n + m) (xs ++ news)) → Below w0.heap.size w0 w' → w.grownBy w' v.ownBlock → K (a.put o.dst v') w') :
    if Region.wanted o (yielded ops a.tmps) = true then Oper.wp P o a w K Q else E := by
  have hw : Region.wanted o (yielded ops a.tmps) = true := by simp [Region.wanted, hgd]
  rw [if_pos hw]
  refine wp_append_own w s x t ho base e i z size bytes ht hi hz hsize hby hzs hsz v n xs hs hown ad m c news hx hl hnews h1 h63 hbytes hbase fun v' w' h2 h3 _ => h v' w' (Lib.hid h2) ?_ h3
  exact hb.grown h3 hb.size (fun k hk => Nat.le_trans hB0 (own_base hown k hk))
#print axioms step_append_own
end Go.Proofs.YtfimheedecdaiaaDoor
