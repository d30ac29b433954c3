/- MarkRings, for arguments of bulk at most 1048576: of a job's edges, each as one link, all places that are on none are gone around as often as its rings go around them: THE ROW. Condition: the given bound on the arguments' bulk, no other. -/
import Derived.Test.YtinenepjloodcaaCwSMf
import Derived.Test.YtinenepjloodcaaCwXb
import Derived.Test.YtinenepjloodcaaRows
import Derived.JoinedCond
set_option linter.unusedVariables false
set_option linter.unusedSimpArgs false
namespace Go.Proofs.Ytinenepjloodcaa
open Go.Cw Go.ChangeShapes Go.WideShapes Go.ChangeAt Go.RowKit

theorem Try.own : ownKnob Try.prog.godebug = none := by kernel_rfl
theorem Try.laidOut : laidOutB Try.prog = true := by kernel_rfl

theorem bulkAll_sum {H : Type} : ∀ l : List (DataW H), (l.map Rows.uptoBulk).sum = Rows.uptoBulkAll l
  | [] => by simp [Rows.uptoBulkAll]
  | d :: l => by simp only [List.map_cons, List.sum_cons, Rows.uptoBulkAll, bulkAll_sum l]
theorem bulk_rows {H : Type} : Bulk (H := H) Rows.uptoBulk where
  one d := by
    cases d with
    | lit l => cases l <;> simp [Rows.uptoBulk]
    | nil => simp [Rows.uptoBulk]
    | ptr d => simp [Rows.uptoBulk]
    | slice elems spare => simp [Rows.uptoBulk]
    | agg parts => simp [Rows.uptoBulk]
    | iface t d => simp [Rows.uptoBulk]
    | map entries => simp [Rows.uptoBulk]
    | held h => simp [Rows.uptoBulk]
  sl e s := by simp only [bulkAll_sum, Rows.uptoBulk]; omega
  agg ps := by simp only [bulkAll_sum, Rows.uptoBulk]; omega
theorem bulk_part {H : Type} {d : DataW H} {l : List (DataW H)} (h : d ∈ l) : Rows.uptoBulk d ≤ Rows.uptoBulkAll l := by
  induction l with
  | nil => cases h
  | cons x r ih =>
    simp only [Rows.uptoBulkAll]
    cases List.mem_cons.1 h with
    | inl e => subst e; omega
    | inr e => have := ih e; omega

theorem rows_pt : ∀ {xs : List (List PV)}, (∀ x ∈ xs, fitsRow [.int .i64, .int .i64] x) → ∃ l : List Pt, xs = l.map Pt.pv
  | [], _ => ⟨[], rfl⟩
  | x :: xs, h => by
    obtain ⟨l, hl⟩ := rows_pt (xs := xs) (fun y hy => h y (List.mem_cons_of_mem _ hy))
    have hx := h x (by simp)
    simp only [fitsRow, fitsLf] at hx
    obtain ⟨_, _, rfl, ⟨a, rfl, _⟩, _, _, rfl, ⟨b, rfl, _⟩, rfl⟩ := hx
    exact ⟨⟨a, b⟩ :: l, by rw [hl]; rfl⟩
theorem lf_pts {c : PV} (h : fitsLf (.sl [.int .i64, .int .i64]) c) : ∃ (nl : Bool) (l : List Pt), c = .sl nl (l.map Pt.pv) := by
  rw [fitsLf] at h
  rcases h with rfl | ⟨xs, rfl, _, hx⟩
  · exact ⟨true, [], rfl⟩
  · obtain ⟨l, rfl⟩ := rows_pt hx
    exact ⟨false, l, rfl⟩
theorem rows_rg : ∀ {xs : List (List PV)}, (∀ x ∈ xs, fitsRow [.sl [.int .i64, .int .i64]] x) → ∃ l : List Rg, xs = l.map Rg.pv
  | [], _ => ⟨[], rfl⟩
  | x :: xs, h => by
    obtain ⟨l, hl⟩ := rows_rg (xs := xs) (fun y hy => h y (List.mem_cons_of_mem _ hy))
    have hx := h x (by simp)
    rw [fitsRow] at hx
    obtain ⟨c, cs, rfl, h1, h2⟩ := hx
    rw [fitsRow] at h2
    subst h2
    obtain ⟨nl, p, rfl⟩ := lf_pts h1
    exact ⟨⟨nl, p⟩ :: l, by rw [hl]; rfl⟩
theorem lf_rgs {c : PV} (h : fitsLf (.sl [.sl [.int .i64, .int .i64]]) c) : ∃ (nl : Bool) (l : List Rg), c = .sl nl (l.map Rg.pv) := by
  rw [fitsLf] at h
  rcases h with rfl | ⟨xs, rfl, _, hx⟩
  · exact ⟨true, [], rfl⟩
  · obtain ⟨l, rfl⟩ := rows_rg hx
    exact ⟨false, l, rfl⟩
theorem arg_job {pvs : List PV} (h1 : fitsRow [.sl [.sl [.int .i64, .int .i64]], .sl [.sl [.int .i64, .int .i64]], .int .i64, .int .i64, .int .i64, .int .i64] pvs) :
    ∃ (nA nB : Bool) (A B : List Rg) (op fi ru ca : Int), pvs = [.sl nA (A.map Rg.pv), .sl nB (B.map Rg.pv), .int .i64 op, .int .i64 fi, .int .i64 ru, .int .i64 ca] := by
  rw [fitsRow] at h1
  obtain ⟨c0, _, rfl, g0, h1⟩ := h1
  rw [fitsRow] at h1
  obtain ⟨c1, _, rfl, g1, h1⟩ := h1
  obtain ⟨nA, A, rfl⟩ := lf_rgs g0
  obtain ⟨nB, B, rfl⟩ := lf_rgs g1
  simp only [fitsRow, fitsLf] at h1
  obtain ⟨_, _, rfl, ⟨a, rfl, _⟩, _, _, rfl, ⟨b, rfl, _⟩, _, _, rfl, ⟨c, rfl, _⟩, _, _, rfl, ⟨d, rfl, _⟩, rfl⟩ := h1
  exact ⟨nA, nB, A, B, a, b, c, d, rfl⟩
theorem arg_int {w : World} {v : Value} {pvs : List PV} (h1 : fitsRow [.int .i64] pvs) (h2 : RowRep w pvs [v]) : ∃ n, RepP (G0 w).cls w (.int .i64 n) v := by
  obtain ⟨c, h3, h4⟩ := row_one h1 h2
  rw [fitsLf] at h3
  obtain ⟨n, rfl, _⟩ := h3
  exact ⟨n, h4⟩

theorem sz_pts : ∀ l : List Pt, szLL (l.map Pt.pv) = 2 * l.length
  | [] => rfl
  | p :: l => by simp only [List.map_cons, szLL, sz_pts l, Pt.pv, szL, PV.sz, List.length_cons]; omega
theorem sz_rgs : ∀ l : List Rg, szLL (l.map Rg.pv) = l.length + 2 * totR l
  | [] => rfl
  | r :: l => by simp only [List.map_cons, szLL, sz_rgs l, Rg.pv, szL, PV.sz, sz_pts, List.length_cons, totR]; omega
theorem mem_totR : ∀ {l : List Rg} {r : Rg}, r ∈ l → r.pts.length ≤ totR l
  | [], r, h => by simp at h
  | r0 :: l, r, h => by
    rcases List.mem_cons.1 h with rfl | h
    · simp only [totR]; omega
    · have := mem_totR h; simp only [totR]; omega

theorem fJob : flatT Try.prog 8 42 = some [.sl [.sl [.int .i64, .int .i64]], .sl [.sl [.int .i64, .int .i64]], .int .i64, .int .i64, .int .i64, .int .i64] := by kernel_rfl
theorem fInt : flatT Try.prog 6 3 = some [.int .i64] := by kernel_rfl

set_option maxRecDepth 100000 in
theorem markRings_lifted (os : Os) (started : os.Started) (H : Type) (enc : TypeId × Value → H) (F : Stop.Interp) :
    ReturnsInHanded {} Try.checked os 5 .any ((Rows.OpenSpec.upto Rows.markRingsSpec).pre6 enc Try.prog Try.f5 Rows.markRingsUptoRow.domain false) (((Rows.OpenSpec.upto Rows.markRingsSpec).at F).post enc Try.prog Try.f5 false true false false) := by
  refine returnsInHanded_of_cond (C := Try.checked) (s := Rows.OpenSpec.upto Rows.markRingsSpec) (k := Rows.uptoSmall) rfl Try.own started (by kernel_rfl) Try.func5
    (OpenSpec.witness (enc := enc) (C := Try.checked) (s := Rows.OpenSpec.upto Rows.markRingsSpec) (k := Rows.uptoSmall) rfl false ⟨#[], #[.agg #[.slice none 0 0, .slice none 0 0, .int .i64 0, .int .i64 0, .int .i64 0, .int .i64 0], .int .i64 0, .int .i64 0], []⟩ 8 (by kernel_rfl) (by kernel_rfl) (by kernel_rfl)
      (x := ([.agg [.nil, .nil, .lit (.int .i64 0), .lit (.int .i64 0), .lit (.int .i64 0), .lit (.int .i64 0)], .lit (.int .i64 0), .lit (.int .i64 0)], [], [])) (by kernel_rfl) rfl (by kernel_rfl)) ?_
  intro W base args ds gs before hval0 hW hcnd hk _
  have hval : ∀ (j : Nat) t v, Try.f5.params[j]? = some t → args[j]? = some v → Value.okWide Try.prog W .any base t v := hval0
  have hW' : DataW.Whole enc Try.prog Try.f5.params.toList Rows.markRingsSpec.vars false W args.toList ds gs before := hW
  have hk' : Rows.uptoBulkAll (ds ++ gs) ≤ 1048576 := of_decide_eq_true hk
  obtain ⟨p, q, hA0, hV, rfl, hfz, hnd⟩ := hW
  have hA : DataW.TrodAll enc Try.prog W 0 (fun _ => true) true [42, 3, 3] args.toList ds p := hA0
  obtain ⟨v0, v1, v2, d0, d1, d2, p0, p1, p2, rfl, rfl, rfl, h0, h1, h2⟩ := trodAll_three hA
  have o0 := hval 0 42 v0 rfl rfl
  have o1 := hval 1 3 v1 rfl rfl
  have o2 := hval 2 3 v2 rfl rfl
  obtain ⟨r0, a0, b0, s0⟩ := arg_repB bulk_rows fJob h0
  obtain ⟨r1, a1, b1, _⟩ := arg_repB bulk_rows fInt h1
  obtain ⟨r2, a2, b2, _⟩ := arg_repB bulk_rows fInt h2
  have hd0 : Rows.uptoBulk d0 ≤ 1048576 := Nat.le_trans (bulk_part (by simp)) hk'
  obtain ⟨nA, nB, A, B, op, fi, ru, ca, rfl⟩ := arg_job a0
  simp only [szL, PV.sz, sz_rgs] at s0
  have e0 := rep_aggArg o0 (by kernel_rfl) b0
  rw [cells_one o1 (by kernel_rfl)] at b1
  rw [cells_one o2 (by kernel_rfl)] at b2
  obtain ⟨x, e1⟩ := arg_int a1 b1
  obtain ⟨y, e2⟩ := arg_int a2 b2
  refine (spec8 St0 nA nB A B op fi ru ca x y (by omega) (by omega) (fun r hr => by have := mem_totR hr; omega) (fun r hr => by have := mem_totR hr; omega) (G0 W) W [v0, v1, v2] (sim0 W) (RepL.cons e0 (RepL.cons (.p e1) (RepL.cons (.p e2) (RepL.nil _ _))))).mono fun e W' ⟨v, G', he, hx, _, hr, _⟩ => ?_
  have hv := rep_bool hr
  subst hv
  refine ⟨_, he, post_true (s := Rows.markRingsSpec) Try.laidOut hW' rfl (below0 hx) ?_ rfl (by kernel_rfl) ?_⟩
  · intro t ht
    have ht' : t ∈ [42, 3, 3] := ht
    simp only [List.mem_cons, List.not_mem_nil, or_false] at ht'
    rcases ht' with rfl | rfl | rfl
    · exact ⟨by kernel_rfl, of_decide_eq_true (by kernel_rfl)⟩
    · exact ⟨by kernel_rfl, of_decide_eq_true (by kernel_rfl)⟩
    · exact ⟨by kernel_rfl, of_decide_eq_true (by kernel_rfl)⟩
  · cases gs with
    | nil => rfl
    | cons g gs => exact hV.elim

theorem markRings_holds : Rows.MarkRingsUptoSaid :=
  OpenClaim.holds_of_cond 5 Try.f5 rfl rfl rfl rfl rfl rfl rfl ⟨rfl, rfl, rfl, rfl, rfl⟩ rfl rfl rfl rfl rfl (by kernel_rfl) Try.func5 (by kernel_rfl)
    (of_decide_eq_true (by kernel_rfl)) (by unfold Func.isWrapper; first | (rw [if_pos (by decide +kernel)]; kernel_rfl) | (rw [if_neg (by decide +kernel)]; exact ⟨rfl, rfl⟩))
    (fun os started H enc _ F => markRings_lifted os started H enc F)
#print axioms markRings_holds
end Go.Proofs.Ytinenepjloodcaa

