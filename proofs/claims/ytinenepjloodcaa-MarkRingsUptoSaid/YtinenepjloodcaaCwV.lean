/- MAPS: each operation on a map is sound. -/
import Derived.Test.YtinenepjloodcaaCwI
import Derived.Test.YtinenepjloodcaaCwT
import Derived.MapKept
set_option linter.unusedVariables false
set_option linter.unusedSimpArgs false
namespace Go.Cw

section
variable {P : Program} {G : Gh} {S : St} {w : World} {id : Nat} {K : AV → St → Prop}

/-! ### Keys -/

theorem intsOf_sound : ∀ {cs : List AV} {ks : List Int}, intsOf cs = some ks → ∀ {vs : List Value}, RepL G w cs vs → vs = ks.map (fun n => Value.int .i64 n)
  | [], ks, h, vs, hr => by
    simp only [intsOf, Option.some.injEq] at h
    subst h
    rw [hr.nil_inv]; rfl
  | c :: cs, ks, h, vs, hr => by
    unfold intsOf at h
    split at h
    · rename_i e; cases e
    · rename_i n cs' e
      simp only [List.cons.injEq] at e
      obtain ⟨rfl, rfl⟩ := e
      simp only [Option.map_eq_some_iff] at h
      obtain ⟨ks', h1, rfl⟩ := h
      obtain ⟨v, vs', rfl, r1, r2⟩ := hr.uncons
      rw [rep_int r1, intsOf_sound h1 r2]; rfl
    · cases h

theorem keyInts_sound {x : AV} {ks : List Int} {v : Value} (h : keyInts x = some ks) (hr : Rep G w x v) : v = intsV ks := by
  unfold keyInts at h
  split at h
  · obtain ⟨vs, rfl, r1, _⟩ := rep_agg hr
    rw [intsV, ← intsOf_sound h r1]
  · cases h

theorem fits_ints : ∀ (ks : List Int), fitsL (List.replicate ks.length (some .i64)) (ks.map (fun n => Value.int .i64 n))
  | [] => by simp [fitsL]
  | k :: ks => by simp [List.replicate_succ, fitsL, fits_ints ks]

theorem eqL_ints : ∀ (ks ls : List Int), ks.length = ls.length → eqL (ks.map (fun n => Value.int .i64 n)) (ls.map (fun n => Value.int .i64 n)) = decide (ks = ls)
  | [], [], _ => by simp [eqL]
  | [], _ :: _, h => by simp at h
  | _ :: _, [], h => by simp at h
  | k :: ks, l :: ls, h => by
    simp only [List.map_cons, eqL, eqL_ints ks ls (by simpa using h), List.cons.injEq]
    by_cases h1 : k = l <;> by_cases h2 : ks = ls <;> simp [h1, h2]

theorem agg_formed {t : TypeId} {l : List Value} (hag : isAggT P t = some true) (hs : l.length = P.cellsOf t) : (Value.agg l.toArray).formed P t = true := by
  unfold isAggT at hag
  split at hag <;> simp_all [Value.formed]

theorem mapT_sound {t : TypeId} {wd : Nat} {z : AV} (h : mapT P t = some (wd, z)) : ∃ kt e zv, P.underlying t = some (.map kt e) ∧ leaves P 100 kt = some (List.replicate wd (some .i64)) ∧ P.cellsOf kt = wd ∧ isAggT P kt = some true ∧
    (∀ w : World, (zeroValue e).run P w = .ok zv w) ∧ ∀ (G : Gh) (w : World), Rep G w z zv := by
  unfold mapT at h
  split at h
  · rename_i kt e hu
    split at h
    · rename_i L zv hL hz
      split at h
      · rename_i z' hz'
        split at h
        · rename_i hc
          simp only [Option.some.injEq, Prod.mk.injEq] at h
          obtain ⟨rfl, rfl⟩ := h
          rw [Option.bind_eq_some_iff] at hz
          obtain ⟨i, hi, hiz⟩ := hz
          exact ⟨kt, e, zv, hu, by rw [hL]; exact congrArg some hc.1, hc.2.1.symm, hc.2.2, fun w => by simp [zeroValue, typeInfo, hi, hiz], fun G w => absV_sound hz' G w⟩
        · cases h
      · cases h
    · cases h
  · cases h

def CheckOk (P : Program) (em : Bool) (dd : Nat) (e : TypeId) (L : List (Option IntKind)) : Prop :=
  ∀ (w : World) (a : Value), a.formed P e = true → fitsL L a.cells.toList → (Instr.checkKey em dd e a).run P w = .ok () w

theorem run_checkKey_fits (em : Bool) (q : Nat) : ∀ (d : Nat) (t : TypeId) (L : List (Option IntKind)), leaves P d t = some L → CheckOk P em (q + d) t L
  | 0, _, _, h => by simp [leaves] at h
  | d + 1, t, L, hL => by
    intro w a fa ha
    unfold leaves at hL
    split at hL
    · rename_i hu
      simp only [Option.some.injEq] at hL
      subst hL
      obtain ⟨x, rfl⟩ := cells_of_fits fa (by simp [hu]) (by simp [hu]) ha
      rw [show q + (d + 1) = (q + d) + 1 from rfl]
      simp [Instr.checkKey, run_underlying hu]
    · rename_i k hu
      simp only [Option.some.injEq] at hL
      subst hL
      obtain ⟨x, rfl⟩ := cells_of_fits fa (by simp [hu]) (by simp [hu]) ha
      rw [show q + (d + 1) = (q + d) + 1 from rfl]
      simp [Instr.checkKey, run_underlying hu]
    · rename_i n e hu
      split at hL
      · rename_i l hl
        split at hL
        · rename_i hlen
          simp only [Option.some.injEq] at hL
          subst hL
          cases a <;> simp only [Value.formed, hu, Bool.false_eq_true] at fa
          rename_i xs
          have hpe : ∃ i, P.info? e = some i := by
            cases d with
            | zero => simp [leaves] at hl
            | succ d =>
              unfold leaves at hl
              cases hue : P.underlying e with
              | none => simp [hue] at hl
              | some _ => exact info_of_underlying hue
          obtain ⟨i, hi⟩ := hpe
          have IH := run_checkKey_fits em q d e l hl
          rw [show q + (d + 1) = (q + d) + 1 from rfl, Instr.checkKey]
          simp only [Sem.run_bind, run_underlying hu, Result.andThen_ok]
          simp only [Std.Legacy.Range.forIn_eq_forIn_range', Std.Legacy.Range.size, Nat.sub_zero, Nat.add_one_sub_one, Nat.div_one]
          simp only [Value.cells] at ha
          have ha' : fitsL (List.replicate n l).flatten (xs.toList.drop (0 * P.cellsOf e)) := by simpa using ha
          clear ha
          generalize (0 : Nat) = s at ha' ⊢
          clear hu
          induction n generalizing s with
          | zero => simp
          | succ n ih =>
            rw [List.replicate_succ, List.flatten_cons] at ha'
            obtain ⟨x1, x2⟩ := fitsL_append ha'
            obtain ⟨a, pa, fa, ca⟩ := run_part_fits (w := w) hl hlen (xs := xs) (off := s * P.cellsOf e) x1
            have he := IH w a fa (by rw [ca]; exact x1)
            have hs : s * P.cellsOf e + l.length = (s + 1) * P.cellsOf e := by rw [hlen, Nat.add_mul, Nat.one_mul]
            simp only [List.range'_succ, List.forIn_cons, Sem.run_bind, run_sizeOf w hi, Result.andThen_ok, pa, he, Sem.run_pure]
            exact ih (s + 1) (by rw [← hs]; simpa [List.drop_drop] using x2)
        · cases hL
      · cases hL
    · rename_i fs hu
      split at hL
      · cases hL
      · rename_i hst
        cases a <;> simp only [Value.formed, hu, Bool.false_eq_true] at fa
        rename_i xs
        rw [show q + (d + 1) = (q + d) + 1 from rfl, Instr.checkKey]
        simp only [Sem.run_bind, run_underlying hu, Result.andThen_ok]
        rw [← Array.forIn_toList]
        simp only [Value.cells] at ha
        have ha' : fitsL L (xs.toList.drop 0) := by simpa using ha
        clear ha
        generalize (0 : Nat) = off at hL ha'
        generalize fs.toList = fl at hL ⊢
        clear hu fa
        induction fl generalizing off L with
        | nil => simp
        | cons f fl ih =>
          simp only [leavesF] at hL
          split at hL
          · rename_i hn
            split at hL
            · rename_i l hl
              split at hL
              · rename_i hlen
                simp only [Option.map_eq_some_iff] at hL
                obtain ⟨L', hL', rfl⟩ := hL
                obtain ⟨x1, x2⟩ := fitsL_append ha'
                obtain ⟨hn, hoff⟩ := hn
                obtain ⟨a, pa, fa, ca⟩ := run_part_fits (w := w) hl hlen (xs := xs) (off := off) x1
                have he := run_checkKey_fits em q d f.type l hl w a fa (by rw [ca]; exact x1)
                simp only [List.forIn_cons, Sem.run_bind, hn, hoff, ne_eq, not_false_eq_true, if_true, Result.andThen_ok, pa, he, Sem.run_pure]
                exact ih L' (off + l.length) (by simpa [List.drop_drop] using x2) hL'
              · cases hL
            · cases hL
          · cases hL
    · cases hL

theorem run_checkKey_ints {kt : TypeId} {ks : List Int} (hL : leaves P 100 kt = some (List.replicate ks.length (some .i64))) (hc : P.cellsOf kt = ks.length) (hag : isAggT P kt = some true) (em : Bool) : (Instr.checkKey em 10000 kt (intsV ks)).run P w = .ok () w := by
  have := run_checkKey_fits em (10000 - 100) 100 kt _ hL w (intsV ks) (agg_formed hag (by simp [hc])) (by simpa [intsV, Value.cells] using fits_ints ks)
  rw [show 10000 - 100 + 100 = 10000 by omega] at this
  exact this

/-! ### Entries -/

inductive Ent (G : Gh) (w : World) (wd : Nat) : MEs → List MapEntry → Prop where
  | nil : Ent G w wd [] []
  | cons {e : List Int × AV × Nat} {m : MapEntry} {es : MEs} {ms : List MapEntry} (h1 : e.1.length = wd) (h2 : m.key = intsV e.1) (h3 : Rep G w e.2.1 m.val) (h4 : m.born = e.2.2) (ht : Ent G w wd es ms) : Ent G w wd (e :: es) (m :: ms)

theorem ent_of {wd : Nat} : ∀ {es : MEs} {ms : List MapEntry}, ms.length = es.length → (∀ (i : Nat) e m, es[i]? = some e → ms[i]? = some m → e.1.length = wd ∧ m.key = intsV e.1 ∧ Rep G w e.2.1 m.val ∧ m.born = e.2.2) → Ent G w wd es ms
  | [], [], _, _ => .nil
  | [], _ :: _, h, _ => by simp at h
  | _ :: _, [], h, _ => by simp at h
  | e :: es, m :: ms, h, k => by
    obtain ⟨a, b, c, d⟩ := k 0 e m rfl rfl
    exact .cons a b c d (ent_of (by simpa using h) fun i e' m' h1 h2 => k (i + 1) e' m' (by simpa using h1) (by simpa using h2))

theorem ent_to {wd : Nat} {es : MEs} {ms : List MapEntry} (h : Ent G w wd es ms) : ms.length = es.length ∧ ∀ (i : Nat) e m, es[i]? = some e → ms[i]? = some m → e.1.length = wd ∧ m.key = intsV e.1 ∧ Rep G w e.2.1 m.val ∧ m.born = e.2.2 := by
  induction h with
  | nil => exact ⟨rfl, fun i e m h => by simp at h⟩
  | cons h1 h2 h3 h4 _ ih =>
    refine ⟨by simp [ih.1], fun i e m he hm => ?_⟩
    cases i with
    | zero => simp at he hm; subst he; subst hm; exact ⟨h1, h2, h3, h4⟩
    | succ i => simp at he hm; exact ih.2 i e m he hm

theorem Ent.mono {G' : Gh} {w' : World} (hle : Le G w G' w') {wd : Nat} {es : MEs} {ms : List MapEntry} (h : Ent G w wd es ms) : Ent G' w' wd es ms := by
  induction h with
  | nil => exact .nil
  | cons h1 h2 h3 h4 _ ih => exact .cons h1 h2 (h3.mono hle) h4 ih

theorem Ent.push {wd : Nat} {es : MEs} {ms : List MapEntry} (h : Ent G w wd es ms) {e : List Int × AV × Nat} {m : MapEntry} (h1 : e.1.length = wd) (h2 : m.key = intsV e.1) (h3 : Rep G w e.2.1 m.val) (h4 : m.born = e.2.2) : Ent G w wd (es ++ [e]) (ms ++ [m]) := by
  induction h with
  | nil => exact .cons h1 h2 h3 h4 .nil
  | cons a b c d _ ih => exact .cons a b c d ih

theorem run_findAsking_ints {kt : TypeId} {ks : List Int} (hL : leaves P 100 kt = some (List.replicate ks.length (some .i64))) (hc : P.cellsOf kt = ks.length) (hag : isAggT P kt = some true) {es : MEs} {ms : List MapEntry} (h : Ent G w ks.length es ms) :
    ∀ i, match findK ks es with
      | none => (Instr.findAsking kt (intsV ks) ms i).run P w = .ok none w
      | some e => ∃ j m, (Instr.findAsking kt (intsV ks) ms i).run P w = .ok (some (i + j, m.val)) w ∧ ms[j]? = some m ∧ es[j]? = some e ∧ e.1 = ks := by
  induction h with
  | nil => intro i; simp [findK, Instr.findAsking]
  | @cons e m es ms h1 h2 h3 h4 ht ih =>
    intro i
    have he := run_equal_fits (P := P) (w := w) (d := 100) (by omega) hL (a := intsV ks) (b := intsV e.1) (agg_formed hag (by simp [hc])) (agg_formed hag (by simp [hc, h1])) (by simpa [intsV, Value.cells] using fits_ints ks) (by rw [← h1]; simpa [intsV, Value.cells] using fits_ints e.1)
    simp only [intsV, Value.cells] at he
    rw [eqL_ints ks e.1 h1.symm] at he
    simp only [findK]
    by_cases hk : e.1 = ks
    · rw [if_pos hk]
      refine ⟨0, m, ?_, rfl, rfl, hk⟩
      have hd : decide (ks = e.1) = true := decide_eq_true hk.symm
      rw [hd] at he
      simp only [Instr.findAsking, h2, Sem.run_bind, intsV, he, Result.andThen_ok, if_true, Sem.run_pure, Nat.add_zero]
    · rw [if_neg hk]
      have hd : decide (ks = e.1) = false := decide_eq_false fun e' => hk e'.symm
      rw [hd] at he
      have ih' := ih (i + 1)
      cases hf : findK ks es with
      | none =>
        rw [hf] at ih'
        simp only [Instr.findAsking, h2, Sem.run_bind, intsV, he, Result.andThen_ok, Bool.false_eq_true, if_false]
        simpa [intsV] using ih'
      | some e' =>
        rw [hf] at ih'
        obtain ⟨j, m', r1, r2, r3, r4⟩ := ih'
        refine ⟨j + 1, m', ?_, by simpa using r2, by simpa using r3, r4⟩
        simp only [Instr.findAsking, h2, Sem.run_bind, intsV, he, Result.andThen_ok, Bool.false_eq_true, if_false]
        rw [show i + (j + 1) = i + 1 + j by omega]
        simpa [intsV] using r1

theorem run_findKey_ints {kt : TypeId} {ks : List Int} (hag : isAggT P kt = some true) (ms : List MapEntry) : (Instr.findKey kt (intsV ks) ms).run P w = (Instr.findAsking kt (intsV ks) ms).run P w := by
  have hh : ∃ d, P.underlying kt = some d ∧ ((∃ fs, d = .struct fs) ∨ ∃ n e, d = .array n e) := by
    unfold isAggT at hag
    split at hag
    · rename_i fs hu; exact ⟨_, hu, .inl ⟨fs, rfl⟩⟩
    · rename_i n e hu; exact ⟨_, hu, .inr ⟨n, e, rfl⟩⟩
    · cases hag
    · cases hag
  obtain ⟨d, hu, hd⟩ := hh
  cases ms with
  | nil => simp [Instr.findKey, run_underlying hu, Instr.findNow, Instr.findAsking]
  | cons e es => rcases hd with ⟨fs, rfl⟩ | ⟨n, e', rfl⟩ <;> simp [Instr.findKey, run_underlying hu, Instr.findNow, Instr.sameNow]

theorem blk_map (hS : Sim G S w) {k wd cl : Nat} {z : AV} {es : MEs} (hk : S.H k = some (.map wd z es cl)) : ∃ mes : Array MapEntry, w.heap[G.ptr k]? = some (.map mes cl) ∧ Ent G w wd es mes.toList ∧ ∀ o, G.cls (G.ptr k) o = .own k := by
  obtain ⟨_, mes, h1, h2, h3, h4⟩ := hS.blk k _ hk
  exact ⟨mes, h1, ent_of (by simpa using h2) fun i e m he hm => h3 i e m he (by simpa using hm), h4⟩

theorem blkOk_map {k wd cl : Nat} {z : AV} {es : MEs} {mes : Array MapEntry} (h1 : w.heap[G.ptr k]? = some (.map mes cl)) (h2 : Ent G w wd es mes.toList) (h4 : ∀ o, G.cls (G.ptr k) o = .own k) : BlkOk G w k (.map wd z es cl) := by
  obtain ⟨a, b⟩ := ent_to h2
  exact ⟨mes, h1, by simpa using a, fun i e m he hm => b i e m he (by simpa using hm), h4⟩

theorem rep_map {k : Nat} {v : Value} (h : Rep G w (.map k) v) : v = .map (some (G.ptr k)) ∧ G.live k = true := by cases h with | map h => exact ⟨rfl, h⟩

theorem gobj {r : Nat} {es : Array MapEntry} {cl : Nat} (h : w.heap[r]? = some (.map es cl)) : (getObj r).run P w = .ok (.map es cl) w := by simp [getObj, Sem.run, h]
theorem gitr {r : Nat} {a : Option Nat} {b : Nat} {c : Array Nat} {d : Nat} (h : w.heap[r]? = some (.mapIter a b c d)) : (getObj r).run P w = .ok (.mapIter a b c d) w := by simp [getObj, Sem.run, h]
theorem sobj {r : Nat} {es : Array MapEntry} {cl : Nat} (o : Obj) (h : w.heap[r]? = some (.map es cl)) : (setObj r o).run P w = .ok () { w with heap := w.heap.setIfInBounds r o } := by simp [setObj, Sem.run, h]
theorem sitr {r : Nat} {a : Option Nat} {b : Nat} {c : Array Nat} {d : Nat} (o : Obj) (h : w.heap[r]? = some (.mapIter a b c d)) : (setObj r o).run P w = .ok () { w with heap := w.heap.setIfInBounds r o } := by simp [setObj, Sem.run, h]

/-! ### Lookup -/

theorem ok_look (hS : Sim G S w) {t : TypeId} {k wd cl : Nat} {z x key : AV} {vx vk : Value} {es : MEs} {ks : List Int} (ht : mapT P t = some (wd, z)) (hx : Rep G w x vx) (hk : Rep G w key vk) (e1 : x = .map k) (e2 : keyInts key = some ks) (hH : S.H k = some (.map wd z es cl)) (hl : ks.length = wd)
    (h : K (lookV z ks es) S) : OkRun G S w id K ((Instr.lookup t vx vk false).run P w) := by
  subst e1
  subst hl
  rw [(rep_map hx).1, keyInts_sound e2 hk]
  obtain ⟨kt, e, zv, hu, hL, hc, hag, hz, hzr⟩ := mapT_sound ht
  obtain ⟨mes, hb, hent, _⟩ := blk_map hS hH
  have hf := run_findAsking_ints (w := w) hL hc hag hent 0
  have hck : ∀ em, (Instr.checkKey em 10000 kt (intsV ks)).run P w = .ok () w := fun em => run_checkKey_ints hL hc hag em
  cases hq : findK ks es with
  | none =>
    rw [hq] at hf
    simp only at hf
    have : (Instr.lookup t (.map (some (G.ptr k))) (intsV ks) false).run P w = .ok zv w := by
      simp [Instr.lookup, run_underlying hu, gobj hb, hck, run_findKey_ints hag, hf, hz]
    rw [this]
    refine okSame hS h ?_
    simp only [lookV, hq]
    exact hzr G w
  | some e' =>
    rw [hq] at hf
    obtain ⟨j, m, r1, r2, r3, r4⟩ := hf
    have : (Instr.lookup t (.map (some (G.ptr k))) (intsV ks) false).run P w = .ok m.val w := by
      simp [Instr.lookup, run_underlying hu, gobj hb, hck, run_findKey_ints hag, r1]
    rw [this]
    refine okSame hS h ?_
    simp only [lookV, hq]
    exact ((ent_to hent).2 j e' m r3 r2).2.2.1

/-! ### Turning a block of one's own -/

theorem own_set (hS : Sim G S w) {k : Nat} {b0 blk : Blk} (hk : S.H k = some b0) (hown : ∀ o, G.cls (G.ptr k) o = .own k) (o : Obj)
    (hb : Le G w G { w with heap := w.heap.setIfInBounds (G.ptr k) o } → BlkOk G { w with heap := w.heap.setIfInBounds (G.ptr k) o } k blk) :
    Ext G S w G (S.put k blk) { w with heap := w.heap.setIfInBounds (G.ptr k) o } ∧ Sim G (S.put k blk) { w with heap := w.heap.setIfInBounds (G.ptr k) o } := by
  generalize hw' : ({ w with heap := w.heap.setIfInBounds (G.ptr k) o } : World) = w' at hb ⊢
  have hlv := (hS.blk k _ hk).1
  have hother : ∀ b, b ≠ G.ptr k → w'.heap[b]? = w.heap[b]? := fun b hb => by rw [← hw']; simp [Ne.symm hb]
  have hcell : ∀ b o, b ≠ G.ptr k → w'.cell? ⟨b, o, none⟩ = w.cell? ⟨b, o, none⟩ := fun b o hb => by simp [World.cell?, hother b hb]
  have hfroz : ∀ b o, b ≠ G.ptr k → w'.frozen? ⟨b, o, none⟩ = w.frozen? ⟨b, o, none⟩ := fun b o hb => by simp [World.frozen?, hother b hb]
  have hne : ∀ b o c, G.cls b o = c → c ≠ .own k → b ≠ G.ptr k := fun b o c hc hne e => by subst e; rw [hown o] at hc; exact hne hc.symm
  have hle : Le G w G w' := ⟨fun _ h => h, fun _ _ => rfl, fun _ _ => ⟨Nat.le_refl _, fun _ => rfl⟩, fun _ _ h => h, fun b o hb => hcell b o (hne b o _ hb (by simp))⟩
  have hsize : w'.heap.size = w.heap.size := by rw [← hw']; simp
  have hb' := hb hle
  refine ⟨⟨hle, by rw [← hw'], by rw [← hw'], by rw [← hw'], by rw [hsize]; exact Nat.le_refl _, fun b hb hno => hother b (fun e => ?_), fun b hb o' k' h6 h7 => ?_⟩, ⟨⟨fun k' b' hb2 => ?_, hS.bnd, fun b o' hb => ?_, fun b o' hb => ?_⟩, hS.own⟩⟩
  · subst e; have := hno 0 k (hown 0); rw [hk] at this; cases this
  · refine ⟨k', h6, ?_⟩
    simp only [St.put_H] at h7
    split at h7
    · rename_i e'; subst e'; rw [hk]; simp
    · exact h7
  · simp only [St.put_H] at hb2
    split at hb2
    · rename_i e'; subst e'
      simp only [Option.some.injEq] at hb2; subst hb2
      exact ⟨hlv, hb'⟩
    · rename_i e'
      obtain ⟨q1, q2⟩ := hS.blk k' b' hb2
      refine ⟨q1, q2.keep hle q1 rfl (fun ha => ?_) (fun b o' ha hcl hfr => ?_)⟩
      · have : G.ptr k' ≠ G.ptr k := hne _ 0 _ (ha 0) (by simp only [ne_eq, Cls.own.injEq]; exact e')
        exact ⟨hother _ this, ha⟩
      · have : b ≠ G.ptr k := hne _ _ _ ha (by simp only [ne_eq, Cls.own.injEq]; exact e')
        exact ⟨ha, by rw [hcell _ _ this]; exact hcl, by rw [hfroz _ _ this]; exact hfr⟩
  · rw [hcell _ _ (hne _ _ _ hb (by simp))]; exact hS.set b o' hb
  · exact hS.free b o' (by rw [← hsize]; exact hb)

theorem ok_mk (hS : Sim G S w) (hid : G.live id = false) (hn : id < S.n) {t : TypeId} {wd : Nat} {z : AV} (h : K (.map id) (S.put id (.map wd z [] 0))) : OkRun G S w id K ((Instr.makeMap t none).run P w) := by
  have hr : (Instr.makeMap t none).run P w = .ok (.map (some w.heap.size)) (w.alloc (.map #[] 0)) := by simp [Instr.makeMap]
  rw [hr]
  obtain ⟨h2, h3, h4⟩ := newNamed hS hid hn (fun _ => .own id) (.map #[] 0) (by simp) (by simp) w.heap.size ⟨none, 0, 0, 0⟩ (.map wd z [] 0) (by
    refine ⟨#[], ?_, rfl, fun i e m h => by simp at h, fun o => ?_⟩
    · simp only [Gh.reg, if_true]; exact heap_alloc_at
    · simp [Gh.reg, Gh.ext])
  refine ⟨_, _, .map id, _, _, rfl, h, h2, h3, ?_, h4⟩
  have : Rep ((G.ext w.heap.size fun _ => .own id).reg id w.heap.size ⟨none, 0, 0, 0⟩) (w.alloc (.map #[] 0)) (.map id) (.map (some (((G.ext w.heap.size fun _ => .own id).reg id w.heap.size ⟨none, 0, 0, 0⟩).ptr id))) :=
    .map (by simp [Gh.reg])
  simpa [Gh.reg] using this

theorem ok_range (hS : Sim G S w) (hid : G.live id = false) (hn : id < S.n) {t kt e : TypeId} (hu : P.underlying t = some (.map kt e)) {x : AV} {vx : Value} (hx : Rep G w x vx) {k wd cl : Nat} {z : AV} {es : MEs} (e1 : x = .map k) (hH : S.H k = some (.map wd z es cl))
    (h : K (.ptr id 0) (S.put id (.iter k cl [] cl))) : OkRun G S w id K ((Instr.range t vx).run P w) := by
  subst e1
  rw [(rep_map hx).1]
  obtain ⟨mes, hb, _, _⟩ := blk_map hS hH
  have hr : (Instr.range t (.map (some (G.ptr k)))).run P w = .ok (.pointer (some ⟨w.heap.size, 0, none⟩)) (w.alloc (.mapIter (some (G.ptr k)) cl #[] cl)) := by
    simp [Instr.range, run_underlying hu, gobj hb]
  rw [hr]
  have hlk := (hS.blk k _ hH).1
  have hkid : k ≠ id := fun e => by subst e; rw [hid] at hlk; cases hlk
  obtain ⟨h2, h3, h4⟩ := newNamed hS hid hn (fun _ => .own id) (.mapIter (some (G.ptr k)) cl #[] cl) (by simp) (by simp) w.heap.size ⟨none, 0, 0, 0⟩ (.iter k cl [] cl) (by
    refine ⟨?_, ?_, fun o => ?_⟩
    · simp only [Gh.reg, if_true, Gh.ext, if_neg hkid]; exact heap_alloc_at
    · simp [Gh.reg, Gh.ext, hkid, hlk]
    · simp [Gh.reg, Gh.ext])
  refine ⟨_, _, .ptr id 0, _, _, rfl, h, h2, h3, ?_, h4⟩
  have : Rep ((G.ext w.heap.size fun _ => .own id).reg id w.heap.size ⟨none, 0, 0, 0⟩) (w.alloc (.mapIter (some (G.ptr k)) cl #[] cl)) (.ptr id 0) (.pointer (some ⟨((G.ext w.heap.size fun _ => .own id).reg id w.heap.size ⟨none, 0, 0, 0⟩).ptr id, 0, none⟩)) :=
    .ptr (by simp [Gh.reg])
  simpa [Gh.reg] using this

theorem ext_two {x y : AV} {vx vy : Value} (h1 : Rep G w x vx) (h2 : Rep G w y vy) : Rep G w (.tup [x, y]) (.tuple #[vx, vy]) := by
  refine .tup (vs := [vx, vy]) rfl fun i c v hc hv => ?_
  match i with
  | 0 => simp at hc hv; subst hc; subst hv; exact h1
  | 1 => simp at hc hv; subst hc; subst hv; exact h2
  | i + 2 => simp at hc

theorem sameBits_ints : ∀ (ks : List Int), ((ks.map (fun n => Value.int .i64 n)).zip (ks.map (fun n => Value.int .i64 n))).all (fun x => Instr.sameBits 9999 x.1 x.2) = true
  | [] => rfl
  | k :: ks => by simp only [List.map_cons, List.zip_cons_cons, List.all_cons, sameBits_ints ks, Bool.and_true]; simp [Instr.sameBits]

theorem run_keyStays (ks : List Int) : (Instr.keyThatStays (intsV ks) (intsV ks)).run P w = .ok (intsV ks) w := by
  have : Instr.sameBits 10000 (intsV ks) (intsV ks) = true := by
    rw [show (10000 : Nat) = 9999 + 1 from rfl, intsV, Instr.sameBits]
    have := sameBits_ints ks
    simpa using this
  simp [Instr.keyThatStays, this]

theorem ok_ent (hS : Sim G S w) {t : TypeId} {k wd cl : Nat} {z x key : AV} {vx vk : Value} {es : MEs} {ks : List Int} (ht : mapT P t = some (wd, z)) (hx : Rep G w x vx) (hk : Rep G w key vk) (e1 : x = .map k) (e2 : keyInts key = some ks) (hH : S.H k = some (.map wd z es cl)) (hl : ks.length = wd)
    (h : K (.tup [lookV z ks es, .p (.int .i64 (entB ks es cl))]) (S.put k (.map wd z (entE z ks es cl) (entC ks es cl)))) : OkRun G S w id K ((Instr.mapEntry t vx vk).run P w) := by
  subst e1
  subst hl
  rw [(rep_map hx).1, keyInts_sound e2 hk]
  obtain ⟨kt, e, zv, hu, hL, hc, hag, hz, hzr⟩ := mapT_sound ht
  obtain ⟨mes, hb, hent, hown⟩ := blk_map hS hH
  have hf := run_findAsking_ints (w := w) hL hc hag hent 0
  have hck : ∀ em, (Instr.checkKey em 10000 kt (intsV ks)).run P w = .ok () w := fun em => run_checkKey_ints hL hc hag em
  have hlt : G.ptr k < w.heap.size := (Array.getElem?_eq_some_iff.1 hb).1
  cases hq : findK ks es with
  | none =>
    rw [hq] at hf
    simp only at hf
    simp only [lookV, entB, entE, entC, hq] at h
    have hr : (Instr.mapEntry t (.map (some (G.ptr k))) (intsV ks)).run P w = .ok (.tuple #[zv, goInt cl]) { w with heap := w.heap.setIfInBounds (G.ptr k) (.map (mes.push { key := intsV ks, val := zv, born := cl }) (cl + 1)) } := by
      simp [Instr.mapEntry, run_underlying hu, gobj hb, hck, run_findKey_ints hag, hf, hz, sobj _ hb]
    rw [hr]
    obtain ⟨g1, g2⟩ := own_set hS hH hown (.map (mes.push { key := intsV ks, val := zv, born := cl }) (cl + 1)) (blk := .map ks.length z (es ++ [(ks, z, cl)]) (cl + 1)) (fun hle => by
      refine blkOk_map (mes := mes.push { key := intsV ks, val := zv, born := cl }) (by simp [hlt]) ?_ hown
      rw [Array.toList_push]
      exact (hent.mono hle).push rfl rfl (hzr _ _) rfl)
    exact ⟨_, _, _, _, G, rfl, h, g1, g2, ext_two (hzr _ _) (.p (.int _ _)), fun _ h => .inl h⟩
  | some e' =>
    rw [hq] at hf
    obtain ⟨j, m, r1, r2, r3, r4⟩ := hf
    simp only [lookV, entB, entE, entC, hq] at h
    obtain ⟨m1, m2, m3, m4⟩ := (ent_to hent).2 j e' m r3 r2
    have hmj : mes[j]? = some m := by simpa using r2
    have hkey : m.key = intsV ks := by rw [m2, r4]
    have hmod : mes.modify j (fun e => { e with key := intsV ks }) = mes := by
      apply Array.ext_getElem?
      intro i
      rw [Array.getElem?_modify]
      split
      · rename_i e; subst e; rw [hmj]; simp only [Option.map_some]; rw [← hkey]
      · rfl
    have hr : (Instr.mapEntry t (.map (some (G.ptr k))) (intsV ks)).run P w = .ok (.tuple #[m.val, goInt m.born]) { w with heap := w.heap.setIfInBounds (G.ptr k) (.map mes cl) } := by
      simp [Instr.mapEntry, run_underlying hu, gobj hb, hck, run_findKey_ints hag, r1, hmj, hkey, run_keyStays, hmod, sobj _ hb]
    rw [hr]
    obtain ⟨g1, g2⟩ := own_set hS hH hown (.map mes cl) (blk := .map ks.length z es cl) (fun hle => by
      exact blkOk_map (mes := mes) (by simp [hlt]) (hent.mono hle) hown)
    refine ⟨_, _, _, _, G, rfl, h, g1, g2, ext_two (m3.mono g1.toLe) ?_, fun _ h => .inl h⟩
    rw [m4]
    exact .p (.int _ _)

/-! ### A store into an entry -/

theorem setB_sound {wd b : Nat} {v : AV} {u : Value} (hv : Rep G w v u) {es : MEs} {ms : List MapEntry} (h : Ent G w wd es ms) : ∀ {es' : MEs}, setB b v es = some es' →
    ∃ i, ms.findIdx? (fun m => (m.born : Int) == (b : Int)) = some i ∧ Ent G w wd es' (ms.modify i fun m => { m with val := u }) := by
  induction h with
  | nil => intro es' h; simp [setB] at h
  | @cons e m es ms h1 h2 h3 h4 ht ih =>
    intro es' h
    simp only [setB] at h
    by_cases he : e.2.2 = b
    · rw [if_pos he] at h
      simp only [Option.some.injEq] at h
      subst h
      exact ⟨0, by simp [List.findIdx?_cons, h4, he], .cons h1 h2 hv h4 ht⟩
    · rw [if_neg he] at h
      simp only [Option.map_eq_some_iff] at h
      obtain ⟨es2, q, rfl⟩ := h
      obtain ⟨i, i1, i2⟩ := ih q
      refine ⟨i + 1, ?_, ?_⟩
      · rw [List.findIdx?_cons]
        have : ((m.born : Int) == (b : Int)) = false := by rw [h4]; simp; omega
        rw [this, i1]; rfl
      · exact .cons h1 h2 h3 h4 i2

theorem ok_set (hS : Sim G S w) {t : TypeId} {k b wd cl : Nat} {z x st v : AV} {vx vs u : Value} {es es' : MEs} (hx : Rep G w x vx) (hs : Rep G w st vs) (hv : Rep G w v u) (e1 : x = .map k) (e2 : st = .p (.int .i64 (b : Nat))) (hH : S.H k = some (.map wd z es cl)) (he : setB b v es = some es') :
    ∃ w', (Instr.entryStore t vx vs u).run P w = .ok () w' ∧ Ext G S w G (S.put k (.map wd z es' cl)) w' ∧ Sim G (S.put k (.map wd z es' cl)) w' := by
  subst e1
  subst e2
  rw [(rep_map hx).1, rep_int hs]
  obtain ⟨mes, hb, hent, hown⟩ := blk_map hS hH
  obtain ⟨i, i1, i2⟩ := setB_sound hv hent he
  have hlt : G.ptr k < w.heap.size := (Array.getElem?_eq_some_iff.1 hb).1
  have i1' : mes.findIdx? (fun m => (m.born : Int) == (b : Int)) = some i := by cases mes; simpa using i1
  have hr : (Instr.entryStore t (.map (some (G.ptr k))) (.int .i64 (b : Nat)) u).run P w = .ok () { w with heap := w.heap.setIfInBounds (G.ptr k) (.map (mes.modify i fun m => { m with val := u }) cl) } := by
    simp [Instr.entryStore, gobj hb, asInt, asIntOf, i1', sobj _ hb]
  obtain ⟨g1, g2⟩ := own_set hS hH hown (.map (mes.modify i fun m => { m with val := u }) cl) (blk := .map wd z es' cl) (fun hle => by
    refine blkOk_map (mes := mes.modify i fun m => { m with val := u }) (by simp [hlt]) ?_ hown
    rw [Array.toList_modify]
    exact i2.mono hle)
  exact ⟨_, hr, g1, g2⟩

/-! ### Iteration -/

theorem rep_ints (ks : List Int) : Rep G w (.agg (ks.map fun n => .p (.int .i64 n))) (intsV ks) := by
  refine .agg (vs := ks.map fun n => Value.int .i64 n) (by simp) (fun i c v hc hv => ?_) (fun v hv => ?_)
  · simp only [List.getElem?_map, Option.map_eq_some_iff] at hc hv
    obtain ⟨n, h1, rfl⟩ := hc
    obtain ⟨m, h2, rfl⟩ := hv
    rw [h1] at h2
    cases h2
    exact .p (.int _ _)
  · simp only [List.mem_map] at hv
    obtain ⟨n, _, rfl⟩ := hv
    rfl

theorem run_choose_next (w : World) {c : Nat} (hc : 0 < c) : ∃ n w1, (choose (.mapNext c)).run P w = .ok n w1 ∧ (w1 = w ∨ w1 = w.drew) ∧ n < c := by
  by_cases hf : c ≤ 1
  · exact ⟨0, w, by simp [choose, Sem.run, Question.forced, hf], .inl rfl, hc⟩
  · exact ⟨w.tape w.drawn (.mapNext c) % c, w.drew, by simp [choose, Sem.run, Question.forced, hf, Question.cut], .inr rfl, Nat.mod_lt _ hc⟩

theorem blk_iter (hS : Sim G S w) {r k since last : Nat} {seen : List Nat} (hr : S.H r = some (.iter k since seen last)) : w.heap[G.ptr r]? = some (.mapIter (some (G.ptr k)) since seen.toArray last) ∧ G.live k = true ∧ ∀ o, G.cls (G.ptr r) o = .own r := (hS.blk r _ hr).2

theorem ent_mem {wd : Nat} {es : MEs} {ms : List MapEntry} (h : Ent G w wd es ms) {m : MapEntry} (hm : m ∈ ms) : ∃ e ∈ es, e.1.length = wd ∧ m.key = intsV e.1 ∧ Rep G w e.2.1 m.val ∧ m.born = e.2.2 := by
  obtain ⟨i, hi⟩ := List.getElem?_of_mem hm
  obtain ⟨h1, h2⟩ := ent_to h
  have hl : i < es.length := by rw [← h1]; exact (List.getElem?_eq_some_iff.1 hi).1
  exact ⟨es[i], List.getElem_mem hl, h2 i _ _ (by simp [hl]) hi⟩
theorem mem_ent {wd : Nat} {es : MEs} {ms : List MapEntry} (h : Ent G w wd es ms) {e : List Int × AV × Nat} (hm : e ∈ es) : ∃ m ∈ ms, e.1.length = wd ∧ m.key = intsV e.1 ∧ Rep G w e.2.1 m.val ∧ m.born = e.2.2 := by
  obtain ⟨i, hi⟩ := List.getElem?_of_mem hm
  obtain ⟨h1, h2⟩ := ent_to h
  have hl : i < ms.length := by rw [h1]; exact (List.getElem?_eq_some_iff.1 hi).1
  exact ⟨ms[i], List.getElem_mem hl, h2 i _ _ hi (by simp [hl])⟩

theorem ok_next (hS : Sim G S w) {ty : TypeId} {x : AV} {vx : Value} (hx : Rep G w x vx) {r k since last wd cl : Nat} {seen : List Nat} {z : AV} {es : MEs} (e1 : x = .ptr r 0) (hr : S.H r = some (.iter k since seen last)) (hH : S.H k = some (.map wd z es cl))
    (hlt : ∀ e ∈ es, e.2.2 < last) (h1 : ∀ e ∈ es, e.2.2 ∉ seen → K (.tup [.p (.bool true), .agg (e.1.map fun n => .p (.int .i64 n)), e.2.1]) (S.put r (.iter k since (seen ++ [e.2.2]) cl)))
    (h2 : (∀ e ∈ es, e.2.2 < since → e.2.2 ∈ seen) → K (.tup [.p (.bool false)]) S) : OkRun G S w id K ((Instr.next vx false ty).run P w) := by
  subst e1
  rw [(rep_ptr hx).1]
  obtain ⟨mes, hb, hent, hown⟩ := blk_map hS hH
  obtain ⟨hi, hlk, hro⟩ := blk_iter hS hr
  have hcond : (!(seen.toArray.isEmpty) && !mes.isEmpty && mes.all (fun m => decide (m.born ≥ last))) = false := by
    cases hm : mes.toList with
    | nil =>
      have : mes = #[] := by apply Array.ext'; simpa using hm
      subst this; simp
    | cons m ms =>
      obtain ⟨e, he, _, _, _, hbn⟩ := ent_mem hent (m := m) (by rw [hm]; simp)
      have := hlt e he
      rw [← Array.all_toList, hm]
      simp only [List.all_cons]
      rw [show decide (m.born ≥ last) = false from decide_eq_false (by omega)]
      simp
  let left := mes.filter fun m => !seen.toArray.contains m.born
  let old := left.filter fun m => decide (m.born < since)
  let new := left.filter fun m => decide (m.born ≥ since)
  let cands : Array (Option MapEntry) := (if old.isEmpty then #[none] else #[]) ++ (old ++ new).map some
  have hpos : 0 < cands.size := by
    show 0 < ((if old.isEmpty then #[none] else #[]) ++ (old ++ new).map some).size
    by_cases ho : old.isEmpty
    · simp [ho]; omega
    · simp only [Array.isEmpty_iff_size_eq_zero] at ho
      simp; omega
  obtain ⟨n, w1, hc, hw1, hn⟩ := run_choose_next (P := P) w hpos
  have hS1 : Sim G S w1 := by rcases hw1 with rfl | rfl; exact hS; exact hS.drew
  have hE1 : Ext G S w G S w1 := by rcases hw1 with rfl | rfl; exact Ext.refl _ _ _; exact Ext.drew G S w
  have hh : w1.heap = w.heap := by rcases hw1 with rfl | rfl <;> rfl
  obtain ⟨q, hq⟩ : ∃ q, cands[n]? = some q := ⟨cands[n], by simp [hn]⟩
  have run : (Instr.next (.pointer (some ⟨G.ptr r, 0, none⟩)) false ty).run P w = (match q with
      | some e => (do setObj (G.ptr r) (.mapIter (some (G.ptr k)) since (seen.toArray.push e.born) cl); pure (.tuple #[.bool true, e.key, e.val]) : Sem Value)
      | none => (pure (.tuple #[.bool false]) : Sem Value)).run P w1 := by
    have hc' : (choose (.mapNext ((if old.isEmpty then #[none] else #[]) ++ (old ++ new).map some).size)).run P w = .ok n w1 := hc
    have hq' : ((if old.isEmpty then #[none] else #[]) ++ (old ++ new).map some)[n]? = some q := hq
    simp only [Instr.next, Sem.run_bind, gitr hi, gobj hb, Result.andThen_ok, hcond, Bool.false_eq_true, if_false]
    show ((choose (.mapNext ((if old.isEmpty then #[none] else #[]) ++ (old ++ new).map some).size)).run P w).andThen _ = _
    rw [hc']
    simp only [Result.andThen_ok]
    show (match ((if old.isEmpty then #[none] else #[]) ++ (old ++ new).map some)[n]? with | some (some e) => _ | some none => _ | none => _ : Sem Value).run P w1 = _
    rw [hq']
    cases q <;> rfl
  rw [run]
  have hmem : q ∈ cands := Array.mem_of_getElem? hq
  have hmem' : q ∈ ((if old.isEmpty then #[none] else #[]) ++ (old ++ new).map some : Array (Option MapEntry)) := hmem
  cases q with
  | none =>
    simp only [Sem.run_pure]
    have ho : old.isEmpty = true := by
      by_cases ho : old.isEmpty = true
      · exact ho
      · rw [if_neg ho] at hmem'; simp at hmem'
    refine ⟨_, _, _, S, G, rfl, h2 fun e he hs => ?_, hE1, hS1, .tup (vs := [.bool false]) rfl (fun i c v hc hv => ?_), fun _ h => .inl h⟩
    · obtain ⟨m, hm, _, _, _, hbn⟩ := mem_ent hent he
      by_cases hse : e.2.2 ∈ seen
      · exact hse
      · exfalso
        have : m ∈ old := by
          show m ∈ (mes.filter fun m => !seen.toArray.contains m.born).filter fun m => decide (m.born < since)
          simp only [Array.mem_filter, decide_eq_true_eq]
          exact ⟨⟨by simpa using hm, by rw [hbn]; simpa using hse⟩, by omega⟩
        rw [Array.isEmpty_iff_size_eq_zero] at ho
        have := Array.size_pos_of_mem this
        omega
    · match i with
      | 0 => simp at hc hv; subst hc; subst hv; exact .p (.bool _)
      | i + 1 => simp at hc
  | some m =>
    have hm : m ∈ mes.toList ∧ m.born ∉ seen := by
      have h3 : m ∈ old ++ new := by
        by_cases ho : old.isEmpty = true
        · rw [if_pos ho] at hmem'; simpa using hmem'
        · rw [if_neg ho] at hmem'; simpa using hmem'
      have h4 : m ∈ (mes.filter fun m => !seen.toArray.contains m.born) := by
        rcases Array.mem_append.1 h3 with h3 | h3
        · exact (Array.mem_filter.1 h3).1
        · exact (Array.mem_filter.1 h3).1
      simp only [Array.mem_filter] at h4
      exact ⟨by simpa using h4.1, by simpa using h4.2⟩
    obtain ⟨e, he, q1, q2, q3, q4⟩ := ent_mem hent hm.1
    have hi1 : w1.heap[G.ptr r]? = some (.mapIter (some (G.ptr k)) since seen.toArray last) := by rw [hh]; exact hi
    have hlt' : G.ptr r < w1.heap.size := (Array.getElem?_eq_some_iff.1 hi1).1
    simp only [Sem.run_bind, sitr _ hi1, Result.andThen_ok, Sem.run_pure]
    obtain ⟨g1, g2⟩ := own_set hS1 hr hro (.mapIter (some (G.ptr k)) since (seen.toArray.push m.born) cl) (blk := .iter k since (seen ++ [e.2.2]) cl) (fun hle => by
      refine ⟨?_, hlk, hro⟩
      simp [hlt', q4])
    refine ⟨_, _, _, _, G, rfl, h1 e he (by rw [← q4]; exact hm.2), hE1.trans g1, g2, ?_, fun _ h => .inl h⟩
    refine .tup (vs := [.bool true, m.key, m.val]) rfl fun i c v hc hv => ?_
    match i with
    | 0 => simp at hc hv; subst hc; subst hv; exact .p (.bool _)
    | 1 => simp at hc hv; subst hc; subst hv; rw [q2]; exact rep_ints _
    | 2 => simp at hc hv; subst hc; subst hv; exact (q3.mono hE1.toLe).mono g1.toLe
    | i + 3 => simp at hc

theorem findB_sound {wd b : Nat} {es : MEs} {ms : List MapEntry} (h : Ent G w wd es ms) : ∀ {e : List Int × AV × Nat}, findB b es = some e → ∃ m, ms.find? (fun m => m.born == b) = some m ∧ m.key = intsV e.1 ∧ Rep G w e.2.1 m.val := by
  induction h with
  | nil => intro e h; simp [findB] at h
  | @cons e' m es ms h1 h2 h3 h4 ht ih =>
    intro e h
    simp only [findB] at h
    by_cases he : e'.2.2 = b
    · rw [if_pos he] at h
      simp only [Option.some.injEq] at h
      subst h
      exact ⟨m, by simp [List.find?_cons, h4, he], h2, h3⟩
    · rw [if_neg he] at h
      obtain ⟨m', i1, i2⟩ := ih h
      refine ⟨m', ?_, i2⟩
      rw [List.find?_cons]
      have : (m.born == b) = false := by rw [h4]; simpa using he
      rw [this]; exact i1

theorem ok_entry (hS : Sim G S w) {x : AV} {vx : Value} (hx : Rep G w x vx) {r k since wd cl b : Nat} {seen : List Nat} {z : AV} {es : MEs} {e : List Int × AV × Nat} (e1 : x = .ptr r 0) (hr : S.H r = some (.iter k since (seen ++ [b]) cl)) (hH : S.H k = some (.map wd z es cl))
    (hf : findB b es = some e) (h : K (.tup [.agg (e.1.map fun n => .p (.int .i64 n)), e.2.1]) S) : OkRun G S w id K ((Instr.entry vx).run P w) := by
  subst e1
  rw [(rep_ptr hx).1]
  obtain ⟨mes, hb, hent, hown⟩ := blk_map hS hH
  obtain ⟨hi, hlk, hro⟩ := blk_iter hS hr
  obtain ⟨m, i1, i2, i3⟩ := findB_sound hent hf
  have i1' : mes.find? (fun m => m.born == b) = some m := by cases mes; simpa using i1
  have : (Instr.entry (.pointer (some ⟨G.ptr r, 0, none⟩))).run P w = .ok (.tuple #[m.key, m.val]) w := by
    simp [Instr.entry, gitr hi, gobj hb, i1']
  rw [this]
  refine okSame hS h ?_
  rw [i2]
  exact ext_two (rep_ints _) i3

/-! ### A row that a call hands out gets a name of the caller's -/

/-- The marks behind a call, its row k under the name id; all its other names forgotten. -/
def Gh.ren (G : Gh) (n k id : Nat) : Gh :=
  { live := fun j => if j = id then true else G.live j && decide (j < n), ptr := G.ptr,
    cls := fun b o => match G.cls b o with | .own j => if j = k then .own id else if j < n then .own j else .free | c => c,
    vec := fun j => if j = id then G.vec k else G.vec j }

section ren
variable {n k : Nat}

theorem ren_settled {b o : Nat} : (G.ren n k id).cls b o = .settled ↔ G.cls b o = .settled := by
  simp only [Gh.ren]
  split
  · rename_i j hj; rw [hj]; split <;> (try split) <;> simp
  · exact Iff.rfl
theorem ren_own {b o j : Nat} (h : (G.ren n k id).cls b o = .own j) : (j = id ∧ G.cls b o = .own k) ∨ (j < n ∧ G.cls b o = .own j) := by
  simp only [Gh.ren] at h
  split at h
  · rename_i j' hj
    split at h
    · rename_i e; subst e; simp only [Cls.own.injEq] at h; exact .inl ⟨h.symm, hj⟩
    · split at h
      · rename_i e1 e2; simp only [Cls.own.injEq] at h; subst h; exact .inr ⟨e2, hj⟩
      · cases h
  · rename_i h1; exact absurd h (h1 j)
theorem own_ren {b o j : Nat} (h : G.cls b o = .own j) (hj : j < n) (hk : n ≤ k) : (G.ren n k id).cls b o = .own j := by
  simp only [Gh.ren, h]
  rw [if_neg (by omega), if_pos hj]
theorem own_ren_k {b o : Nat} (h : G.cls b o = .own k) : (G.ren n k id).cls b o = .own id := by
  simp only [Gh.ren, h, if_true]

theorem RepP.ren {c : PV} {v : Value} (h : RepP G.cls w c v) : RepP (G.ren n k id).cls w c v := h.mono (fun b o hb => ren_settled.2 hb) (fun _ _ _ => rfl)

theorem live_ren {j : Nat} (hid : G.live id = false) (h : G.live j = true) (hj : j < n) : (G.ren n k id).live j = true ∧ j ≠ id := by
  have : j ≠ id := fun e => by subst e; rw [hid] at h; cases h
  exact ⟨by simp [Gh.ren, this, h, hj], this⟩

theorem Rep.ren (hid : G.live id = false) {x : AV} {v : Value} (h : Rep G w x v) (hb : x.under n) : Rep (G.ren n k id) w x v := by
  induction h with
  | junk v => exact .junk v
  | p h => exact .p h.ren
  | sl h ht =>
    refine .sl h.ren ?_
    rename_i t v
    cases t with
    | no => trivial
    | full => exact ht
    | vec j =>
      obtain ⟨h1, h2⟩ := live_ren (k := k) hid ht.1 hb
      exact ⟨h1, by simp only [Gh.ren, if_neg h2]; exact ht.2.1, by simp only [Gh.ren, if_neg h2]; exact ht.2.2⟩
  | agg hl h h1 ih => exact .agg hl (fun i c v hc hv => ih i c v hc hv (underL_mem hb i c hc)) h1
  | tup hl h ih => exact .tup hl (fun i c v hc hv => ih i c v hc hv (underL_mem hb i c hc))
  | ptr h => rename_i j o; exact Rep.ptr (G := G.ren n k id) (live_ren hid h hb).1
  | ref f hc hr => exact .ref f (fun j c hj => ⟨ren_settled.2 (hc j c hj).1, (hc j c hj).2⟩) (fun j c hj => (hr j c hj).ren)
  | map h => rename_i j; exact Rep.map (G := G.ren n k id) (live_ren hid h hb).1
  | fn hl h ih => exact .fn hl (fun i c v hc hv => ih i c v hc hv (underL_mem hb i c hc))
  | nilfn => exact .nilfn
  | nilptr => exact .nilptr
  | nilmap => exact .nilmap

theorem BlkOk.ren (hid : G.live id = false) {j : Nat} {b : Blk} (h : BlkOk G w j b) (hj : j < n) (hji : j ≠ id) (hk : n ≤ k) (hb : b.under n) : BlkOk (G.ren n k id) w j b := by
  cases b with
  | cells cs =>
    obtain ⟨vs, e, h1, h2, h3, h4⟩ := h
    exact ⟨vs, e, h1, ⟨h2.1, fun i c v hc hv => (h2.2 i c v hc hv).ren hid (underL_mem hb i c hc)⟩, h3, fun o => own_ren (h4 o) hj hk⟩
  | fr m wd =>
    obtain ⟨h1, h2, h3, h4, h5⟩ := h
    have hv : (G.ren n k id).vec j = G.vec j := by simp only [Gh.ren, if_neg hji]
    exact ⟨by rw [hv]; exact h1, by rw [hv]; exact h2, by rw [hv]; exact h3, by rw [hv]; exact h4, fun a ha => by
      rw [hv] at ha ⊢
      exact ⟨(h5 a ha).1, fun i j1 j2 => ⟨own_ren ((h5 a ha).2 i j1 j2).1 hj hk, ((h5 a ha).2 i j1 j2).2⟩⟩⟩
  | map wd z es cl =>
    obtain ⟨mes, h1, h2, h3, h4⟩ := h
    refine ⟨mes, h1, h2, fun i e m he hm => ?_, fun o => own_ren (h4 o) hj hk⟩
    obtain ⟨q1, q2, q3, q4⟩ := h3 i e m he hm
    exact ⟨q1, q2, q3.ren hid (hb i e he), q4⟩
  | iter mk since seen last =>
    obtain ⟨h1, h2, h3⟩ := h
    exact ⟨h1, (live_ren hid h2 hb).1, fun o => own_ren (h3 o) hj hk⟩

theorem ren_all {G' : Gh} {S' : St} {w' : World} {m sz : Nat} {nl : Bool} {xs : List (List PV)} {v : Value} (hS : Sim G S w) (hid : G.live id = false) (hn : id < S.n) (hk : S.n ≤ k) (hSn : S'.n = k + 1) (hSH : ∀ j, S'.H j = if j = k then some (.fr m sz) else S.H j)
    (hE : Ext G S w G' S' w') (hS' : Sim G' S' w') (hR : Rep G' w' (.sl nl xs (.vec k)) v) (hlv : ∀ j, j < S.n → G'.live j = true → G.live j = true) :
    Ext G S w (G'.ren S.n k id) (S.put id (.fr m sz)) w' ∧ Sim (G'.ren S.n k id) (S.put id (.fr m sz)) w' ∧ Rep (G'.ren S.n k id) w' (.sl nl xs (.vec id)) v ∧ ∀ j, (G'.ren S.n k id).live j = true → G.live j = true ∨ j = id := by
  have hid' : G'.live id = false := by
    cases hq : G'.live id with
    | false => rfl
    | true => have := hlv id hn hq; rw [hid] at this; cases this
  have hHk : S'.H k = some (.fr m sz) := by rw [hSH, if_pos rfl]
  obtain ⟨hkl, hkb⟩ := hS'.blk k _ hHk
  have vid : (G'.ren S.n k id).vec id = G'.vec k := by simp [Gh.ren]
  refine ⟨⟨⟨fun j hj => ?_, fun j hj => hE.ptr j hj, fun j hj => ?_, fun b o h => ren_settled.2 (hE.settled b o h), hE.pres⟩, hE.os, hE.tape, hE.output, hE.size, hE.kept, fun b hb o j h1 h2 => ?_⟩, ⟨⟨fun j b hj => ?_, fun j hj => ?_, fun b o h => hS'.set b o (ren_settled.1 h), fun b o h => ?_⟩, fun b o j h => ?_⟩, ?_, fun j hj => ?_⟩
  · exact (live_ren hid' (hE.live j hj) (hS.bnd j hj)).1
  · have : j ≠ id := fun e => by subst e; rw [hid] at hj; cases hj
    have hv : (G'.ren S.n k id).vec j = G'.vec j := by simp only [Gh.ren, if_neg this]
    rw [hv]; exact hE.vec j hj
  · rcases ren_own h1 with ⟨rfl, h3⟩ | ⟨h3, h4⟩
    · exact hE.own b hb o k h3 (by rw [hHk]; simp)
    · have hji : j ≠ id := fun e => by subst e; have := hS'.own b o j h4; rw [hid'] at this; cases this
      refine hE.own b hb o j h4 ?_
      rw [hSH, if_neg (by omega)]
      simpa [hji] using h2
  · simp only [St.put_H] at hj
    split at hj
    · rename_i e; subst e
      simp only [Option.some.injEq] at hj; subst hj
      obtain ⟨q1, q2, q3, q4, q5⟩ := hkb
      refine ⟨by simp [Gh.ren], by rw [vid]; exact q1, by rw [vid]; exact q2, by rw [vid]; exact q3, by rw [vid]; exact q4, fun a ha => ?_⟩
      rw [vid] at ha ⊢
      exact ⟨(q5 a ha).1, fun i j1 j2 => ⟨own_ren_k ((q5 a ha).2 i j1 j2).1, ((q5 a ha).2 i j1 j2).2⟩⟩
    · rename_i hji
      obtain ⟨g1, g2⟩ := hS.blk j b hj
      have hjn := hS.bnd j g1
      have hH' : S'.H j = some b := by rw [hSH, if_neg (by omega)]; exact hj
      obtain ⟨l1, l2⟩ := hS'.blk j b hH'
      exact ⟨(live_ren hid' l1 hjn).1, l2.ren hid' hjn hji hk (g2.alive hS.bnd)⟩
  · simp only [Gh.ren] at hj
    split at hj
    · rename_i e; subst e; exact hn
    · simp only [Bool.and_eq_true, decide_eq_true_eq] at hj; exact hj.2
  · have := hS'.free b o h
    simp only [Gh.ren, this]
  · rcases ren_own h with ⟨rfl, _⟩ | ⟨h3, h4⟩
    · simp [Gh.ren]
    · exact (live_ren hid' (hS'.own b o j h4) h3).1
  · cases hR with
    | sl h ht =>
      refine .sl h.ren ⟨by simp [Gh.ren], by rw [vid]; exact ht.2.1, by rw [vid]; exact ht.2.2⟩
  · simp only [Gh.ren] at hj
    split at hj
    · rename_i e; exact .inr e
    · simp only [Bool.and_eq_true, decide_eq_true_eq] at hj; exact .inl (hlv j hj.2 hj.1)
end ren
end
end Go.Cw
