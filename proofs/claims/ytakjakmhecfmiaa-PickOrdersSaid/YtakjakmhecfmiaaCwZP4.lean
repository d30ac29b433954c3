/- PickOrders: THE ROW. -/
import Derived.Test.YtakjakmhecfmiaaCwSPg
import Derived.Test.YtakjakmhecfmiaaCwY
import Derived.Test.YtakjakmhecfmiaaRows
set_option linter.unusedVariables false
set_option linter.unusedSimpArgs false
namespace Go.Proofs.Ytakjakmhecfmiaa
open Go.Cw Go.ChangeShapes Go.WideShapes Go.ChangeAt Go.RowKit

theorem Try.own : ownKnob Try.prog.godebug = none := by kernel_rfl
theorem Try.laidOut : laidOutB Try.prog = true := by kernel_rfl

theorem rows_hf : ∀ {xs : List (List PV)}, (∀ x ∈ xs, fitsRow [.int .i64, .int .i64, .int .i64, .int .i64] x) → ∃ l : List Hf, xs = l.map Hf.pv
  | [], _ => ⟨[], rfl⟩
  | x :: xs, h => by
    obtain ⟨l, hl⟩ := rows_hf (xs := xs) (fun y hy => h y (List.mem_cons_of_mem _ hy))
    have hx := h x (by simp)
    simp only [fitsRow, fitsLf] at hx
    obtain ⟨_, _, rfl, ⟨a, rfl, _⟩, _, _, rfl, ⟨b, rfl, _⟩, _, _, rfl, ⟨c, rfl, _⟩, _, _, rfl, ⟨d, rfl, _⟩, rfl⟩ := hx
    exact ⟨⟨a, b, c, d⟩ :: l, by rw [hl]; rfl⟩

theorem arg_hfs {w : World} {v : Value} {pvs : List PV} (h1 : fitsRow [.sl [.int .i64, .int .i64, .int .i64, .int .i64]] pvs) (h2 : RowRep w pvs [v]) : ∃ (nl : Bool) (l : List Hf), RepP (G0 w).cls w (.sl nl (l.map Hf.pv)) v := by
  obtain ⟨c, h3, h4⟩ := row_one h1 h2
  rw [fitsLf] at h3
  rcases h3 with rfl | ⟨xs, rfl, _, hx⟩
  · exact ⟨true, [], h4⟩
  · obtain ⟨l, rfl⟩ := rows_hf hx
    exact ⟨false, l, h4⟩

theorem arg_two {pvs : List PV} (h1 : fitsRow [.int .i64, .int .i64, .int .i64, .int .i64, .int .i64, .int .i64, .int .i64, .int .i64] pvs) : ∃ a b : Hf, pvs = a.pv ++ b.pv := by
  simp only [fitsRow, fitsLf] at h1
  obtain ⟨_, _, rfl, ⟨a, rfl, _⟩, _, _, rfl, ⟨b, rfl, _⟩, _, _, rfl, ⟨c, rfl, _⟩, _, _, rfl, ⟨d, rfl, _⟩, _, _, rfl, ⟨e, rfl, _⟩, _, _, rfl, ⟨f, rfl, _⟩, _, _, rfl, ⟨g, rfl, _⟩, _, _, rfl, ⟨h, rfl, _⟩, rfl⟩ := h1
  exact ⟨⟨a, b, c, d⟩, ⟨e, f, g, h⟩, rfl⟩

theorem fTwo : flatT Try.prog 6 51 = some [.int .i64, .int .i64, .int .i64, .int .i64, .int .i64, .int .i64, .int .i64, .int .i64] := by kernel_rfl
theorem fHfs : flatT Try.prog 6 44 = some [.sl [.int .i64, .int .i64, .int .i64, .int .i64]] := by kernel_rfl

set_option maxRecDepth 100000 in
theorem pickOrders_lifted (os : Os) (started : os.Started) (H : Type) (enc : TypeId × Value → H) :
    ReturnsInHanded {} Try.checked os 4 .any (Rows.pickOrdersSpec.pre6 enc Try.prog Try.f4 Rows.pickOrdersRow.domain false) (Rows.pickOrdersSpec.post enc Try.prog Try.f4 false true false false) := by
  refine returnsInHanded_of_change (C := Try.checked) Try.own started (by kernel_rfl) Try.func4
    (ChangeSpec.witness6 (enc := enc) (C := Try.checked) false ⟨#[], #[.agg #[.int .i64 0, .int .i64 0, .int .i64 0, .int .i64 0, .int .i64 0, .int .i64 0, .int .i64 0, .int .i64 0], .slice none 0 0], []⟩ 8 (by kernel_rfl) (by kernel_rfl) (by kernel_rfl) (by kernel_rfl)) ?_
  intro W base args ds gs before hval0 hW hcnd _
  have hval : ∀ (j : Nat) t v, Try.f4.params[j]? = some t → args[j]? = some v → Value.okWide Try.prog W .any base t v := hval0
  have hW' : DataW.Whole enc Try.prog Try.f4.params.toList Rows.pickOrdersSpec.vars false W args.toList ds gs before := hW
  obtain ⟨p, q, hA0, hV, rfl, hfz, hnd⟩ := hW
  have hA : DataW.TrodAll enc Try.prog W 0 (fun _ => true) true [51, 44] args.toList ds p := hA0
  obtain ⟨v0, v1, d0, d1, p0, p1, rfl, rfl, rfl, h0, h1⟩ := trodAll_two hA
  have o0 := hval 0 51 v0 rfl rfl
  have o1 := hval 1 44 v1 rfl rfl
  obtain ⟨r0, a0, b0⟩ := arg_rep fTwo h0
  obtain ⟨r1, a1, b1⟩ := arg_rep fHfs h1
  obtain ⟨a, b, rfl⟩ := arg_two a0
  have e0 := rep_aggArg o0 (by kernel_rfl) b0
  rw [cells_one o1 (by kernel_rfl)] at b1
  obtain ⟨nl, l, e1⟩ := arg_hfs a1 b1
  refine (specP4 St0 a b nl l (G0 W) W [v0, v1] (sim0 W) (RepL.cons e0 (RepL.cons (.p e1) (RepL.nil _ _)))).mono fun e W' ⟨v, G', he, hx, _, hr, _⟩ => ?_
  have hv := rep_bool hr
  subst hv
  refine ⟨_, he, post_true Try.laidOut hW' rfl (below0 hx) ?_ rfl (by kernel_rfl) ?_⟩
  · intro t ht
    have ht' : t ∈ [51, 44] := ht
    simp only [List.mem_cons, List.not_mem_nil, or_false] at ht'
    rcases ht' with rfl | rfl
    · exact ⟨by kernel_rfl, of_decide_eq_true (by kernel_rfl)⟩
    · exact ⟨by kernel_rfl, of_decide_eq_true (by kernel_rfl)⟩
  · cases gs with
    | nil => rfl
    | cons g gs => exact hV.elim

theorem pickOrders_holds : Rows.PickOrdersSaid :=
  OpenClaim.holds_of_wide 4 Try.f4 rfl rfl rfl rfl rfl rfl rfl ⟨rfl, rfl, rfl, rfl, rfl⟩ rfl rfl rfl rfl rfl (by kernel_rfl) Try.func4 (by kernel_rfl)
    (of_decide_eq_true (by kernel_rfl)) (by unfold Func.isWrapper; first | (rw [if_pos (by decide +kernel)]; kernel_rfl) | (rw [if_neg (by decide +kernel)]; exact ⟨rfl, rfl⟩))
    (fun os started H enc _ => pickOrders_lifted os started H enc)
#print axioms pickOrders_holds
end Go.Proofs.Ytakjakmhecfmiaa

