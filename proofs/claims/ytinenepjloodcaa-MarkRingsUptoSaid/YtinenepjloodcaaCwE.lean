/- EQUALITY OF PLAIN DATA: what '==' answers of two values whose cells are whole numbers and bools. -/
import Derived.Test.YtinenepjloodcaaCwA
import Derived.ChangeKeysEq
import Derived.DeepKeys
namespace Go.Cw

def leavesF (P : Program) (g : TypeId → Option (List (Option IntKind))) : List Field → Nat → Option (List (Option IntKind))
  | [], _ => some []
  | f :: fs, off => if f.name ≠ "_" ∧ f.offset = off then
      match g f.type with
      | some l => if l.length = P.cellsOf f.type then (leavesF P g fs (off + l.length)).map (l ++ ·) else none
      | none => none
    else none

/-- The kinds of a plain type's cells, in order; none: a bool's. -/
def leaves (P : Program) : Nat → TypeId → Option (List (Option IntKind))
  | 0, _ => none
  | d + 1, t =>
    match P.underlying t with
    | some .bool => some [none]
    | some (.int k) => some [some k]
    | some (.array n e) => match leaves P d e with
      | some l => if l.length = P.cellsOf e then some (List.replicate n l).flatten else none
      | none => none
    | some (.struct fs) => if P.stoodInHeld t then none else leavesF P (fun t => leaves P d t) fs.toList 0
    | _ => none

def fitsL : List (Option IntKind) → List Value → Prop
  | [], [] => True
  | some k :: L, .int k' _ :: vs => k' = k ∧ fitsL L vs
  | none :: L, .bool _ :: vs => fitsL L vs
  | _, _ => False

def eqL : List Value → List Value → Bool
  | .int _ a :: xs, .int _ b :: ys => (a == b) && eqL xs ys
  | .bool a :: xs, .bool b :: ys => (a == b) && eqL xs ys
  | _, _ => true

theorem fitsL_length : ∀ {L : List (Option IntKind)} {vs : List Value}, fitsL L vs → vs.length = L.length
  | [], [], _ => rfl
  | some _ :: _, .int _ _ :: _, h => by simp [fitsL_length h.2]
  | none :: _, .bool _ :: _, h => by simp only [fitsL] at h; simp [fitsL_length h]
  | [], _ :: _, h => h.elim
  | some _ :: _, [], h => by simp [fitsL] at h
  | none :: _, [], h => by simp [fitsL] at h
  | some _ :: _, .bool _ :: _, h => by simp [fitsL] at h
  | none :: _, .int _ _ :: _, h => by simp [fitsL] at h
  | _ :: _, .float _ _ :: _, h => by simp [fitsL] at h
  | _ :: _, .complex _ _ _ :: _, h => by simp [fitsL] at h
  | _ :: _, .string _ :: _, h => by simp [fitsL] at h
  | _ :: _, .pointer _ :: _, h => by simp [fitsL] at h
  | _ :: _, .slice _ _ _ :: _, h => by simp [fitsL] at h
  | _ :: _, .map _ :: _, h => by simp [fitsL] at h
  | _ :: _, .chan _ :: _, h => by simp [fitsL] at h
  | _ :: _, .func _ _ _ :: _, h => by simp [fitsL] at h
  | _ :: _, .nilFunc :: _, h => by simp [fitsL] at h
  | _ :: _, .iface _ _ :: _, h => by simp [fitsL] at h
  | _ :: _, .nilIface :: _, h => by simp [fitsL] at h
  | _ :: _, .agg _ :: _, h => by simp [fitsL] at h
  | _ :: _, .tuple _ :: _, h => by simp [fitsL] at h

theorem fitsL_append : ∀ {A B : List (Option IntKind)} {vs : List Value}, fitsL (A ++ B) vs → fitsL A (vs.take A.length) ∧ fitsL B (vs.drop A.length)
  | [], _, _, h => ⟨by simp [fitsL], by simpa using h⟩
  | some k :: A, B, vs, h => by
    cases vs with
    | nil => simp [fitsL] at h
    | cons v vs => cases v <;> simp [fitsL] at h ⊢; exact ⟨⟨h.1, (fitsL_append h.2).1⟩, (fitsL_append h.2).2⟩
  | none :: A, B, vs, h => by
    cases vs with
    | nil => simp [fitsL] at h
    | cons v vs => cases v <;> simp [fitsL] at h ⊢; exact ⟨(fitsL_append h).1, (fitsL_append h).2⟩

theorem eqL_append : ∀ {A : List (Option IntKind)} {xs ys : List Value}, fitsL A (xs.take A.length) → fitsL A (ys.take A.length) →
    eqL xs ys = (eqL (xs.take A.length) (ys.take A.length) && eqL (xs.drop A.length) (ys.drop A.length))
  | [], _, _, _, _ => by simp [eqL]
  | some k :: A, xs, ys, hx, hy => by
    cases xs with
    | nil => simp [fitsL] at hx
    | cons x xs =>
      cases ys with
      | nil => simp [fitsL] at hy
      | cons y ys =>
        cases x <;> simp [fitsL] at hx
        cases y <;> simp [fitsL] at hy
        simp only [eqL, List.length_cons, List.take_succ_cons, List.drop_succ_cons]
        rw [eqL_append hx.2 hy.2, Bool.and_assoc]
  | none :: A, xs, ys, hx, hy => by
    cases xs with
    | nil => simp [fitsL] at hx
    | cons x xs =>
      cases ys with
      | nil => simp [fitsL] at hy
      | cons y ys =>
        cases x <;> simp [fitsL] at hx
        cases y <;> simp [fitsL] at hy
        simp only [eqL, List.length_cons, List.take_succ_cons, List.drop_succ_cons]
        rw [eqL_append hx hy, Bool.and_assoc]

def EqOk (P : Program) (dd : Nat) (e : TypeId) (L : List (Option IntKind)) : Prop :=
  ∀ (w : World) (a b : Value), a.formed P e = true → b.formed P e = true → fitsL L a.cells.toList → fitsL L b.cells.toList →
    (Op.equalIn dd e a b).run P w = .ok (eqL a.cells.toList b.cells.toList) w

theorem cells_of_fits {P : Program} {t : TypeId} {v : Value} {k : Option IntKind} (hf : v.formed P t = true) (hn : ∀ n e, P.underlying t ≠ some (.array n e)) (hs : ∀ fs, P.underlying t ≠ some (.struct fs))
    (h : fitsL [k] v.cells.toList) : match k with | some q => ∃ n, v = .int q n | none => ∃ b, v = .bool b := by
  have nag : ∀ cs, v ≠ .agg cs := by
    rintro cs rfl
    unfold Value.formed at hf
    revert hf
    (try split) <;> simp_all
  cases v with
  | agg cs => exact absurd rfl (nag cs)
  | _ => cases k <;> simp [Value.cells, fitsL] at h ⊢ <;> assumption

/-- What 'part' reads out of the cells of a plain part. -/
theorem run_part_fits {P : Program} {w : World} {d : Nat} {e : TypeId} {L : List (Option IntKind)} (hL : leaves P d e = some L) (hlen : L.length = P.cellsOf e)
    {xs : Array Value} {off : Nat} (hx : fitsL L ((xs.toList.drop off).take L.length)) :
    ∃ a, (part e xs off).run P w = .ok a w ∧ a.formed P e = true ∧ a.cells.toList = (xs.toList.drop off).take L.length := by
  cases d with
  | zero => simp [leaves] at hL
  | succ d =>
    have hsz := fitsL_length hx
    cases hu : P.underlying e with
    | none => simp [leaves, hu] at hL
    | some kd =>
      have agg : (∃ n e', kd = .array n e') ∨ (∃ fs, kd = .struct fs) → ∃ a, (part e xs off).run P w = .ok a w ∧ a.formed P e = true ∧ a.cells.toList = (xs.toList.drop off).take L.length := by
        intro hk
        obtain ⟨i, hi⟩ := info_of_underlying hu
        have hl : (xs.extract off (off + P.cellsOf e)).toList = (xs.toList.drop off).take L.length := by
          rw [Array.toList_extract, hlen]
          simp [List.extract]
        refine ⟨.agg (xs.extract off (off + P.cellsOf e)), ?_, ?_, hl⟩
        · rcases hk with ⟨n, e', rfl⟩ | ⟨fs, rfl⟩ <;> simp [part, isAgg, run_underlying hu, run_sizeOf w hi]
        · have hs : (xs.extract off (off + P.cellsOf e)).size = P.cellsOf e := by rw [← Array.length_toList, hl, hsz, hlen]
          rcases hk with ⟨n, e', rfl⟩ | ⟨fs, rfl⟩ <;> simp [Value.formed, hu, hs]
      have leaf : ∀ q, L = [q] → (kd = .bool ∨ ∃ k, kd = .int k) → ∃ a, (part e xs off).run P w = .ok a w ∧ a.formed P e = true ∧ a.cells.toList = (xs.toList.drop off).take L.length := by
        rintro q rfl hk
        simp only [List.length_cons, List.length_nil, Nat.zero_add] at hx hsz ⊢
        obtain ⟨v, hv⟩ : ∃ v, (xs.toList.drop off).take 1 = [v] := by
          match h : (xs.toList.drop off).take 1, hsz with
          | [v], _ => exact ⟨v, rfl⟩
        have hg : xs[off]? = some v := by
          have := congrArg (fun l => l[0]?) hv
          simpa [List.getElem?_take] using this
        rw [hv] at hx
        refine ⟨v, ?_, ?_, ?_⟩
        · rcases hk with rfl | ⟨k, rfl⟩ <;> simp [part, isAgg, run_underlying hu, hg]
        · cases v <;> cases q <;> simp [fitsL] at hx <;> rcases hk with rfl | ⟨k, rfl⟩ <;> simp [Value.formed, hu]
        · rw [hv]; cases v <;> cases q <;> simp [fitsL] at hx <;> rfl
      cases kd
      case bool => simp [leaves, hu] at hL; exact leaf _ hL.symm (.inl rfl)
      case int q => simp [leaves, hu] at hL; exact leaf _ hL.symm (.inr ⟨q, rfl⟩)
      case array n e' => exact agg (Or.inl ⟨n, e', rfl⟩)
      case struct fs => exact agg (Or.inr ⟨fs, rfl⟩)
      all_goals (simp [leaves, hu] at hL; done)

theorem run_eqFields_fits {P : Program} (dd d : Nat) (IH : ∀ e L, leaves P d e = some L → EqOk P dd e L) (xs ys : Array Value) :
    ∀ (fs : List Field) (off : Nat) (L : List (Option IntKind)) (w : World), leavesF P (fun t => leaves P d t) fs off = some L →
      fitsL L (xs.toList.drop off) → fitsL L (ys.toList.drop off) → (Op.eqFields dd xs ys fs).run P w = .ok (eqL (xs.toList.drop off) (ys.toList.drop off)) w
  | [], off, L, w, hL, hx, hy => by
    simp only [leavesF, Option.some.injEq] at hL
    subst hL
    have h1 := fitsL_length hx
    have h2 := fitsL_length hy
    rw [List.length_nil] at h1 h2
    rw [List.eq_nil_of_length_eq_zero h1, List.eq_nil_of_length_eq_zero h2]
    simp [Op.eqFields, eqL]
  | f :: fs, off, L, w, hL, hx, hy => by
    simp only [leavesF] at hL
    split at hL
    · rename_i hn
      split at hL
      · rename_i l hl
        split at hL
        · rename_i hlen
          simp only [Option.map_eq_some_iff] at hL
          obtain ⟨L', hL', rfl⟩ := hL
          obtain ⟨x1, x2⟩ := fitsL_append hx
          obtain ⟨y1, y2⟩ := fitsL_append hy
          obtain ⟨hn, hoff⟩ := hn
          obtain ⟨a, pa, fa, ca⟩ := run_part_fits (w := w) hl hlen (xs := xs) (off := off) x1
          obtain ⟨b, pb, fb, cb⟩ := run_part_fits (w := w) hl hlen (xs := ys) (off := off) y1
          have he := IH f.type l hl w a b fa fb (by rw [ca]; exact x1) (by rw [cb]; exact y1)
          rw [ca, cb] at he
          have ih := run_eqFields_fits dd d IH xs ys fs (off + l.length) L' w hL' (by simpa [List.drop_drop] using x2) (by simpa [List.drop_drop] using y2)
          rw [eqL_append x1 y1, List.drop_drop, List.drop_drop]
          simp only [Op.eqFields, hn, hoff, ne_eq, not_false_eq_true, if_true, Sem.run_bind, pa, pb, he, Result.andThen_ok]
          cases hq : eqL ((xs.toList.drop off).take l.length) ((ys.toList.drop off).take l.length)
          · simp
          · simpa using ih
        · cases hL
      · cases hL
    · cases hL

theorem run_eqItems_fits {P : Program} (dd d : Nat) (e : TypeId) (l : List (Option IntKind)) (hl : leaves P d e = some l) (hlen : l.length = P.cellsOf e) (IH : EqOk P dd e l) (xs ys : Array Value) :
    ∀ (n s : Nat) (w : World), fitsL (List.replicate n l).flatten (xs.toList.drop (s * P.cellsOf e)) → fitsL (List.replicate n l).flatten (ys.toList.drop (s * P.cellsOf e)) →
      (Op.eqItems dd e (P.cellsOf e) xs ys (List.range' s n)).run P w = .ok (eqL (xs.toList.drop (s * P.cellsOf e)) (ys.toList.drop (s * P.cellsOf e))) w
  | 0, s, w, hx, hy => by
    have h1 := fitsL_length hx
    have h2 := fitsL_length hy
    simp only [List.replicate_zero, List.flatten_nil, List.length_nil] at h1 h2
    rw [List.eq_nil_of_length_eq_zero h1, List.eq_nil_of_length_eq_zero h2]
    simp [Op.eqItems, eqL]
  | n + 1, s, w, hx, hy => by
    rw [List.replicate_succ, List.flatten_cons] at hx hy
    obtain ⟨x1, x2⟩ := fitsL_append hx
    obtain ⟨y1, y2⟩ := fitsL_append hy
    obtain ⟨a, pa, fa, ca⟩ := run_part_fits (w := w) hl hlen (xs := xs) (off := s * P.cellsOf e) x1
    obtain ⟨b, pb, fb, cb⟩ := run_part_fits (w := w) hl hlen (xs := ys) (off := s * P.cellsOf e) y1
    have he := IH w a b fa fb (by rw [ca]; exact x1) (by rw [cb]; exact y1)
    rw [ca, cb] at he
    have hs : s * P.cellsOf e + l.length = (s + 1) * P.cellsOf e := by rw [hlen, Nat.add_mul, Nat.one_mul]
    have ih := run_eqItems_fits dd d e l hl hlen IH xs ys n (s + 1) w (by rw [← hs]; simpa [List.drop_drop] using x2) (by rw [← hs]; simpa [List.drop_drop] using y2)
    rw [eqL_append x1 y1, List.drop_drop, List.drop_drop, hs]
    simp only [List.range'_succ, Op.eqItems, Sem.run_bind, pa, pb, he, Result.andThen_ok]
    cases hq : eqL ((xs.toList.drop (s * P.cellsOf e)).take l.length) ((ys.toList.drop (s * P.cellsOf e)).take l.length)
    · simp
    · simpa using ih

theorem run_equalIn_fits {P : Program} (q : Nat) : ∀ (d : Nat) (t : TypeId) (L : List (Option IntKind)), leaves P d t = some L → EqOk P (q + d) t L
  | 0, _, _, h => by simp [leaves] at h
  | d + 1, t, L, hL => by
    intro w a b fa fb ha hb
    unfold leaves at hL
    split at hL
    · rename_i hu
      simp only [Option.some.injEq] at hL
      subst hL
      obtain ⟨x, rfl⟩ := cells_of_fits fa (by simp [hu]) (by simp [hu]) ha
      obtain ⟨y, rfl⟩ := cells_of_fits fb (by simp [hu]) (by simp [hu]) hb
      rw [show q + (d + 1) = (q + d) + 1 from rfl, run_equalIn_bool w (q + d) t x y hu]
      simp [Value.cells, eqL]
    · rename_i k hu
      simp only [Option.some.injEq] at hL
      subst hL
      obtain ⟨x, rfl⟩ := cells_of_fits fa (by simp [hu]) (by simp [hu]) ha
      obtain ⟨y, rfl⟩ := cells_of_fits fb (by simp [hu]) (by simp [hu]) hb
      rw [show q + (d + 1) = (q + d) + 1 from rfl, run_equalIn_int w (q + d) t k k x y hu]
      simp [Value.cells, eqL]
    · rename_i n e hu
      split at hL
      · rename_i l hl
        split at hL
        · rename_i hlen
          simp only [Option.some.injEq] at hL
          subst hL
          cases a <;> simp only [Value.formed, hu, Bool.false_eq_true] at fa
          cases b <;> simp only [Value.formed, hu, Bool.false_eq_true] at fb
          rename_i xs ys
          cases d with
          | zero => simp [leaves] at hl
          | succ d =>
            have hpe : ∃ i, P.info? e = some i := by
              unfold leaves at hl
              cases hue : P.underlying e with
              | none => simp [hue] at hl
              | some _ => exact info_of_underlying hue
            obtain ⟨i, hi⟩ := hpe
            rw [show q + (d + 1 + 1) = (q + (d + 1)) + 1 from rfl, run_equalIn_array w (q + (d + 1)) xs ys hu hi, List.range_eq_range']
            have := run_eqItems_fits (q + (d + 1)) (d + 1) e l hl hlen (run_equalIn_fits q (d + 1) e l hl) xs ys n 0 w (by simpa [Value.cells] using ha) (by simpa [Value.cells] using hb)
            simpa [Value.cells] using this
        · cases hL
      · cases hL
    · rename_i fs hu
      split at hL
      · cases hL
      · rename_i hst
        cases a <;> simp only [Value.formed, hu, Bool.false_eq_true] at fa
        cases b <;> simp only [Value.formed, hu, Bool.false_eq_true] at fb
        rename_i xs ys
        have hfs : P.fieldsOf t = fs := by simp [Program.fieldsOf, hu]
        rw [show q + (d + 1) = (q + d) + 1 from rfl, run_equalIn_struct w (q + d) t xs ys (by rw [hfs]; exact hu) (by simpa using hst), hfs]
        have := run_eqFields_fits (q + d) d (fun e L h => run_equalIn_fits q d e L h) xs ys fs.toList 0 L w hL (by simpa [Value.cells] using ha) (by simpa [Value.cells] using hb)
        simpa [Value.cells] using this
    · cases hL

theorem run_equal_fits {P : Program} {w : World} {d : Nat} (hd : d ≤ 10000) {t : TypeId} {L : List (Option IntKind)} (hL : leaves P d t = some L) {a b : Value} (fa : a.formed P t = true) (fb : b.formed P t = true)
    (ha : fitsL L a.cells.toList) (hb : fitsL L b.cells.toList) : (Op.equal t a b).run P w = .ok (eqL a.cells.toList b.cells.toList) w := by
  have := run_equalIn_fits (10000 - d) d t L hL w a b fa fb ha hb
  rw [show 10000 - d + d = 10000 by omega] at this
  exact this

end Go.Cw
