/- PickOf: THE ROW. -/
import Derived.Test.YtakjakmhecfmiaaCwSPl
import Derived.Test.YtakjakmhecfmiaaCwY
import Derived.Test.YtakjakmhecfmiaaRows
set_option linter.unusedVariables false
set_option linter.unusedSimpArgs false
namespace Go.Proofs.Ytakjakmhecfmiaa
open Go.Cw Go.ChangeShapes Go.WideShapes Go.ChangeAt Go.RowKit

theorem Try.own : ownKnob Try.prog.godebug = none := by kernel_rfl
theorem Try.laidOut : laidOutB Try.prog = true := by kernel_rfl

theorem rows_lk : ∀ {xs : List (List PV)}, (∀ x ∈ xs, fitsRow [.int .i64, .int .i64, .int .i64, .int .i64, .int .i64, .int .i64] x) → ∃ l : List Lk, xs = l.map Lk.pv
  | [], _ => ⟨[], rfl⟩
  | x :: xs, h => by
    obtain ⟨l, hl⟩ := rows_lk (xs := xs) (fun y hy => h y (List.mem_cons_of_mem _ hy))
    have hx := h x (by simp)
    simp only [fitsRow, fitsLf] at hx
    obtain ⟨_, _, rfl, ⟨a, rfl, _⟩, _, _, rfl, ⟨b, rfl, _⟩, _, _, rfl, ⟨c, rfl, _⟩, _, _, rfl, ⟨d, rfl, _⟩, _, _, rfl, ⟨e, rfl, _⟩, _, _, rfl, ⟨f, rfl, _⟩, rfl⟩ := hx
    exact ⟨⟨a, b, c, d, e, f⟩ :: l, by rw [hl]; rfl⟩
theorem rows_sd : ∀ {xs : List (List PV)}, (∀ x ∈ xs, fitsRow [.int .i64, .int .i64, .int .i64, .int .i64] x) → ∃ l : List Sd, xs = l.map Sd.pv
  | [], _ => ⟨[], rfl⟩
  | x :: xs, h => by
    obtain ⟨l, hl⟩ := rows_sd (xs := xs) (fun y hy => h y (List.mem_cons_of_mem _ hy))
    have hx := h x (by simp)
    simp only [fitsRow, fitsLf] at hx
    obtain ⟨_, _, rfl, ⟨a, rfl, _⟩, _, _, rfl, ⟨b, rfl, _⟩, _, _, rfl, ⟨c, rfl, _⟩, _, _, rfl, ⟨d, rfl, _⟩, rfl⟩ := hx
    exact ⟨⟨a, b, c, d⟩ :: l, by rw [hl]; rfl⟩
theorem arg_links {w : World} {v : Value} {pvs : List PV} (h1 : fitsRow [.sl [.int .i64, .int .i64, .int .i64, .int .i64, .int .i64, .int .i64]] pvs) (h2 : RowRep w pvs [v]) : ∃ (nl : Bool) (l : List Lk), RepP (G0 w).cls w (.sl nl (l.map Lk.pv)) v := by
  obtain ⟨c, h3, h4⟩ := row_one h1 h2
  rw [fitsLf] at h3
  rcases h3 with rfl | ⟨xs, rfl, _, hx⟩
  · exact ⟨true, [], h4⟩
  · obtain ⟨l, rfl⟩ := rows_lk hx
    exact ⟨false, l, h4⟩
theorem arg_sides {w : World} {v : Value} {pvs : List PV} (h1 : fitsRow [.sl [.int .i64, .int .i64, .int .i64, .int .i64]] pvs) (h2 : RowRep w pvs [v]) : ∃ (nl : Bool) (l : List Sd), RepP (G0 w).cls w (.sl nl (l.map Sd.pv)) v := by
  obtain ⟨c, h3, h4⟩ := row_one h1 h2
  rw [fitsLf] at h3
  rcases h3 with rfl | ⟨xs, rfl, _, hx⟩
  · exact ⟨true, [], h4⟩
  · obtain ⟨l, rfl⟩ := rows_sd hx
    exact ⟨false, l, h4⟩
theorem arg_job {pvs : List PV} (h1 : fitsRow [.sl [.sl [.int .i64, .int .i64]], .sl [.sl [.int .i64, .int .i64]], .int .i64, .int .i64, .int .i64, .int .i64] pvs) : ∃ (c0 c1 : PV) (op fi ru ca : Int), pvs = [c0, c1, .int .i64 op, .int .i64 fi, .int .i64 ru, .int .i64 ca] := by
  rw [fitsRow] at h1
  obtain ⟨c0, _, rfl, _, h1⟩ := h1
  rw [fitsRow] at h1
  obtain ⟨c1, _, rfl, _, h1⟩ := h1
  simp only [fitsRow, fitsLf] at h1
  obtain ⟨_, _, rfl, ⟨a, rfl, _⟩, _, _, rfl, ⟨b, rfl, _⟩, _, _, rfl, ⟨c, rfl, _⟩, _, _, rfl, ⟨d, rfl, _⟩, rfl⟩ := h1
  exact ⟨c0, c1, a, b, c, d, rfl⟩

theorem fJob : flatT Try.prog 8 24 = some [.sl [.sl [.int .i64, .int .i64]], .sl [.sl [.int .i64, .int .i64]], .int .i64, .int .i64, .int .i64, .int .i64] := by kernel_rfl
theorem fLinks : flatT Try.prog 6 25 = some [.sl [.int .i64, .int .i64, .int .i64, .int .i64, .int .i64, .int .i64]] := by kernel_rfl
theorem fSides : flatT Try.prog 6 26 = some [.sl [.int .i64, .int .i64, .int .i64, .int .i64]] := by kernel_rfl

set_option maxRecDepth 100000 in
theorem pickOf_lifted (os : Os) (started : os.Started) (H : Type) (enc : TypeId × Value → H) :
    ReturnsInHanded {} Try.checked os 3 .any (Rows.pickOfSpec.pre6 enc Try.prog Try.f3 Rows.pickOfRow.domain false) (Rows.pickOfSpec.post enc Try.prog Try.f3 false true false false) := by
  refine returnsInHanded_of_change (C := Try.checked) Try.own started (by kernel_rfl) Try.func3
    (ChangeSpec.witness6 (enc := enc) (C := Try.checked) false ⟨#[], #[.agg #[.slice none 0 0, .slice none 0 0, .int .i64 0, .int .i64 0, .int .i64 0, .int .i64 0], .slice none 0 0, .slice none 0 0], []⟩ 8 (by kernel_rfl) (by kernel_rfl) (by kernel_rfl) (by kernel_rfl)) ?_
  intro W base args ds gs before hval0 hW hcnd _
  have hval : ∀ (j : Nat) t v, Try.f3.params[j]? = some t → args[j]? = some v → Value.okWide Try.prog W .any base t v := hval0
  have hW' : DataW.Whole enc Try.prog Try.f3.params.toList Rows.pickOfSpec.vars false W args.toList ds gs before := hW
  obtain ⟨p, q, hA0, hV, rfl, hfz, hnd⟩ := hW
  have hA : DataW.TrodAll enc Try.prog W 0 (fun _ => true) true [24, 25, 26] args.toList ds p := hA0
  obtain ⟨v0, v1, v2, d0, d1, d2, p0, p1, p2, rfl, rfl, rfl, h0, h1, h2⟩ := trodAll_three hA
  have o0 := hval 0 24 v0 rfl rfl
  have o1 := hval 1 25 v1 rfl rfl
  have o2 := hval 2 26 v2 rfl rfl
  obtain ⟨r0, a0, b0⟩ := arg_rep fJob h0
  obtain ⟨r1, a1, b1⟩ := arg_rep fLinks h1
  obtain ⟨r2, a2, b2⟩ := arg_rep fSides h2
  obtain ⟨c0, c1, op, fi, ru, ca, rfl⟩ := arg_job a0
  have e0 := rep_aggArg o0 (by kernel_rfl) b0
  rw [cells_one o1 (by kernel_rfl)] at b1
  rw [cells_one o2 (by kernel_rfl)] at b2
  obtain ⟨nl, l, e1⟩ := arg_links a1 b1
  obtain ⟨ns, s, e2⟩ := arg_sides a2 b2
  refine (specP3 St0 (.p c0) (.p c1) op fi ru ca nl ns l s (G0 W) W [v0, v1, v2] (sim0 W) (RepL.cons e0 (RepL.cons (.p e1) (RepL.cons (.p e2) (RepL.nil _ _))))).mono fun e W' ⟨v, G', he, hx, _, hr, _⟩ => ?_
  have hv := rep_bool hr
  subst hv
  refine ⟨_, he, post_true Try.laidOut hW' rfl (below0 hx) ?_ rfl (by kernel_rfl) ?_⟩
  · intro t ht
    have ht' : t ∈ [24, 25, 26] := ht
    simp only [List.mem_cons, List.not_mem_nil, or_false] at ht'
    rcases ht' with rfl | rfl | rfl
    · exact ⟨by kernel_rfl, of_decide_eq_true (by kernel_rfl)⟩
    · exact ⟨by kernel_rfl, of_decide_eq_true (by kernel_rfl)⟩
    · exact ⟨by kernel_rfl, of_decide_eq_true (by kernel_rfl)⟩
  · cases gs with
    | nil => rfl
    | cons g gs => exact hV.elim

theorem pickOf_holds : Rows.PickOfSaid :=
  OpenClaim.holds_of_wide 3 Try.f3 rfl rfl rfl rfl rfl rfl rfl ⟨rfl, rfl, rfl, rfl, rfl⟩ rfl rfl rfl rfl rfl (by kernel_rfl) Try.func3 (by kernel_rfl)
    (of_decide_eq_true (by kernel_rfl)) (by unfold Func.isWrapper; first | (rw [if_pos (by decide +kernel)]; kernel_rfl) | (rw [if_neg (by decide +kernel)]; exact ⟨rfl, rfl⟩))
    (fun os started H enc _ => pickOf_lifted os started H enc)
#print axioms pickOf_holds
end Go.Proofs.Ytakjakmhecfmiaa

