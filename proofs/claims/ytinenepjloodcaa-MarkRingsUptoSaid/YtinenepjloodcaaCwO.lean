/- CODE: the weakest precondition over abstract states, and what may be forgotten. -/
import Derived.Test.YtinenepjloodcaaCwN
set_option linter.unusedVariables false
set_option linter.unusedSimpArgs false
namespace Go.Cw

/-! ### Forgetting -/

/-- What a value may be forgotten into. -/
inductive wkV (n : Nat) : AV → AV → Prop where
  | junk (x : AV) : wkV n x .junk
  | same {x : AV} (h : x.under n) : wkV n x x
  | no (nil : Bool) (xs : List (List PV)) (t : Tok) : wkV n (.sl nil xs t) (.p (.sl nil xs))
  | tup {xs ys : List AV} (hl : xs.length = ys.length) (h : ∀ (i : Nat) x y, xs[i]? = some x → ys[i]? = some y → wkV n x y) : wkV n (.tup xs) (.tup ys)
  | agg {xs ys : List AV} (hl : xs.length = ys.length) (h : ∀ (i : Nat) x y, xs[i]? = some x → ys[i]? = some y → wkV n x y) : wkV n (.agg xs) (.agg ys)

/-- The marks with the names from a number on forgotten. -/
def Gh.cut (G : Gh) (n : Nat) : Gh :=
  { G with live := fun k => G.live k && decide (k < n), cls := fun b o => match G.cls b o with | .own k => if k < n then .own k else .free | c => c }

section
variable {G : Gh} {S S0 S1 : St} {w w0 : World} {n : Nat}

theorem cut_live {k : Nat} (h : (G.cut n).live k = true) : G.live k = true := by
  simp only [Gh.cut, Bool.and_eq_true] at h; exact h.1

theorem cut_cls_settled {b o : Nat} : (G.cut n).cls b o = .settled ↔ G.cls b o = .settled := by
  simp only [Gh.cut]
  split
  · rename_i k hk; rw [hk]; split <;> simp
  · exact Iff.rfl

theorem cut_cls_own {b o k : Nat} : (G.cut n).cls b o = .own k ↔ G.cls b o = .own k ∧ k < n := by
  simp only [Gh.cut]
  split
  · rename_i k' hk
    rw [hk]
    split
    · rename_i h; simp; intro e; rw [← e]; exact h
    · rename_i h; simp; intro e; rw [← e]; omega
  · rename_i h
    constructor
    · intro e; exact absurd e (h k)
    · rintro ⟨e, _⟩; exact absurd e (h k)

theorem RepP.cut {c : PV} {v : Value} (h : RepP G.cls w c v) : RepP (G.cut n).cls w c v := h.mono (fun b o hb => cut_cls_settled.2 hb) (fun _ _ _ => rfl)

theorem Rep.cut {x : AV} {v : Value} (h : Rep G w x v) (hb : x.under n) : Rep (G.cut n) w x v := by
  induction h with
  | junk v => exact .junk v
  | p h => exact .p h.cut
  | sl h ht =>
    refine .sl h.cut ?_
    rename_i t v
    cases t with
    | no => trivial
    | full => exact ht
    | vec k => exact ⟨by simp only [Gh.cut, ht.1, Bool.true_and, decide_eq_true_eq]; exact hb, ht.2.1, ht.2.2⟩
  | agg hl h h1 ih => exact .agg hl (fun i c v hc hv => ih i c v hc hv (underL_mem hb i c hc)) h1
  | tup hl h ih => exact .tup hl (fun i c v hc hv => ih i c v hc hv (underL_mem hb i c hc))
  | ptr h => rename_i k o; exact Rep.ptr (G := G.cut n) (by simp only [Gh.cut, h, Bool.true_and, decide_eq_true_eq]; exact hb)
  | ref f hc hr => exact .ref f (fun j c hj => ⟨cut_cls_settled.2 (hc j c hj).1, (hc j c hj).2⟩) (fun j c hj => (hr j c hj).cut)
  | map h => rename_i k; exact Rep.map (G := G.cut n) (by simp only [Gh.cut, h, Bool.true_and, decide_eq_true_eq]; exact hb)
  | fn hl h ih => exact .fn hl (fun i c v hc hv => ih i c v hc hv (underL_mem hb i c hc))
  | nilfn => exact .nilfn
  | nilptr => exact .nilptr
  | nilmap => exact .nilmap

theorem Rep.wk {x y : AV} (hw : wkV n x y) : ∀ {v : Value}, Rep G w x v → Rep (G.cut n) w y v := by
  induction hw with
  | junk x => intro v _; exact .junk v
  | same hb => intro v h; exact h.cut hb
  | no nil xs t =>
    intro v h
    cases h with | sl h ht => exact .p h.cut
  | tup hl h ih =>
    intro v hr
    obtain ⟨us, rfl, r1, r2⟩ := rep_tup hr
    refine .tup (by rw [← r1, hl]) (fun i c v hc hv => ?_)
    have hi : i < us.length := (List.getElem?_eq_some_iff.1 hv).1
    rename_i xs ys
    have hx : xs[i]? = some (xs[i]'(by omega)) := by simp [show i < xs.length by omega]
    exact ih i _ c hx hc (r2 i _ v hx hv)
  | agg hl h ih =>
    intro v hr
    obtain ⟨us, rfl, ⟨r1, r2⟩, r3⟩ := rep_agg hr
    refine .agg (by rw [← r1, hl]) (fun i c v hc hv => ?_) r3
    have hi : i < us.length := (List.getElem?_eq_some_iff.1 hv).1
    rename_i xs ys
    have hx : xs[i]? = some (xs[i]'(by omega)) := by simp [show i < xs.length by omega]
    exact ih i _ c hx hc (r2 i _ v hx hv)

theorem BlkOk.cut {k : Nat} {b : Blk} (h : BlkOk G w k b) (hk : k < n) (hb : b.under n) : BlkOk (G.cut n) w k b := by
  cases b with
  | cells cs =>
    obtain ⟨vs, e, h1, h2, h3, h4⟩ := h
    exact ⟨vs, e, h1, ⟨h2.1, fun i c v hc hv => (h2.2 i c v hc hv).cut (underL_mem hb i c hc)⟩, h3, fun o => cut_cls_own.2 ⟨h4 o, hk⟩⟩
  | fr m wd =>
    obtain ⟨h1, h2, h3, h4, h5⟩ := h
    exact ⟨h1, h2, h3, h4, fun a ha => ⟨(h5 a ha).1, fun j j1 j2 => ⟨cut_cls_own.2 ⟨((h5 a ha).2 j j1 j2).1, hk⟩, ((h5 a ha).2 j j1 j2).2⟩⟩⟩
  | map wd z es cl =>
    obtain ⟨mes, h1, h2, h3, h4⟩ := h
    refine ⟨mes, h1, h2, fun i e m he hm => ?_, fun o => cut_cls_own.2 ⟨h4 o, hk⟩⟩
    obtain ⟨q1, q2, q3, q4⟩ := h3 i e m he hm
    exact ⟨q1, q2, q3.cut (hb i e he), q4⟩
  | iter mk since seen last =>
    obtain ⟨h1, h2, h3⟩ := h
    exact ⟨h1, by simp only [Gh.cut, h2, Bool.true_and, decide_eq_true_eq]; exact hb, fun o => cut_cls_own.2 ⟨h3 o, hk⟩⟩

/-- What a state may be forgotten into, in a call that began in the state S0. -/
structure wkS (S0 S S1 : St) : Prop where
  lo : S0.n ≤ S1.n
  hi : S1.n ≤ S.n
  blk : ∀ k b, S1.H k = some b → S.H k = some b ∧ (S0.H k = some b ∨ (k < S1.n ∧ b.under S1.n))

theorem Sim.wk (hS : Sim G S w) (hw : wkS S0 S S1) {G0 : Gh} (h0 : Sim G0 S0 w0) : Sim (G.cut S1.n) S1 w := by
  refine ⟨⟨fun k b hb => ?_, fun k hk => ?_, fun b o hb => ?_, fun b o hb => ?_⟩, fun b o k hb => ?_⟩
  · obtain ⟨h1, h2⟩ := hw.blk k b hb
    obtain ⟨h3, h4⟩ := hS.blk k b h1
    have hk : k < S1.n ∧ b.under S1.n := by
      rcases h2 with h2 | h2
      · obtain ⟨q1, q2⟩ := h0.blk k b h2
        have hlo := hw.lo
        exact ⟨Nat.lt_of_lt_of_le (h0.bnd k q1) hlo, q2.alive fun k hk => Nat.lt_of_lt_of_le (h0.bnd k hk) hlo⟩
      · exact h2
    exact ⟨by simp only [Gh.cut, h3, Bool.true_and, decide_eq_true_eq]; exact hk.1, h4.cut hk.1 hk.2⟩
  · simp only [Gh.cut, Bool.and_eq_true, decide_eq_true_eq] at hk; exact hk.2
  · exact hS.set b o (cut_cls_settled.1 hb)
  · have := hS.free b o hb
    simp only [Gh.cut, this]
  · obtain ⟨h1, h2⟩ := cut_cls_own.1 hb
    simp only [Gh.cut, hS.own b o k h1, Bool.true_and, decide_eq_true_eq]; exact h2

theorem Ext.wk {G0 : Gh} (h0 : Sim G0 S0 w0) (he : Ext G0 S0 w0 G S w) (hw : wkS S0 S S1) : Ext G0 S0 w0 (G.cut S1.n) S1 w where
  live k hk := by simp only [Gh.cut, he.live k hk, Bool.true_and, decide_eq_true_eq]; exact Nat.lt_of_lt_of_le (h0.bnd k hk) hw.lo
  ptr k hk := he.ptr k hk
  vec k hk := he.vec k hk
  settled b o hb := cut_cls_settled.2 (he.settled b o hb)
  pres := he.pres
  os := he.os
  tape := he.tape
  output := he.output
  size := he.size
  kept := he.kept
  own b hb o k h1 h2 := by
    refine he.own b hb o k (cut_cls_own.1 h1).1 ?_
    cases hq : S1.H k with
    | none => exact absurd hq h2
    | some b' => rw [(hw.blk k b' hq).1]; simp

theorem FRep.wk {F F1 : Nat → AV} {a : Act} (h : FRep G w F a) (hw : ∀ t, wkV n (F t) (F1 t)) : FRep (G.cut n) w F1 a := fun t => (h t).wk (hw t)

end

/-! ### Code -/

inductive ACode where
  | skip
  | reg (ops : List AOper)
  | drawn (m : CMode) (seps : List (Nat × Nat)) (ops : List AOper)
  | seq (a b : ACode)
  | cond (c : Opd) (a b : ACode)
  | block (id : Nat) (b : ACode)
  | loop (b : ACode)
  | exit (id : Nat)
  | ret

def seqQ (K : (Nat → AV) → St → Prop) (Q : Exit → (Nat → AV) → St → Prop) : Exit → (Nat → AV) → St → Prop
  | .normal, F, S => K F S
  | e, F, S => Q e F S

def blockQ (id : Nat) (Q : Exit → (Nat → AV) → St → Prop) : Exit → (Nat → AV) → St → Prop
  | .exit id', F, S => if id' = id then Q .normal F S else Q (.exit id') F S
  | e, F, S => Q e F S

structure Wk (S0 : St) (F : Nat → AV) (S : St) (F1 : Nat → AV) (S1 : St) : Prop where
  st : wkS S0 S S1
  fr : ∀ t, wkV S1.n (F t) (F1 t)

def awp (P : Program) (S0 : St) : ACode → (Nat → AV) → St → (Exit → (Nat → AV) → St → Prop) → Prop
  | .skip, F, S, Q => Q .normal F S
  | .reg ops, F, S, Q => aops P .free ops S.n F { S with n := S.n + ops.length } (Q .normal)
  | .drawn m seps ops, F, S, Q => aops P m ops S.n F { S with n := S.n + ops.length } (fun F' S' => sepAll F' seps ∧ Q .normal F' S')
  | .seq a b, F, S, Q => awp P S0 a F S (seqQ (fun F' S' => awp P S0 b F' S' Q) Q)
  | .cond c a b, F, S, Q => match evalO F c with
    | .p (.bool q) => if q = true then awp P S0 a F S Q else awp P S0 b F S Q
    | _ => False
  | .block id b, F, S, Q => awp P S0 b F S (blockQ id Q)
  | .loop b, F, S, Q => ∃ (I : Nat → (Nat → AV) → St → Prop), (∃ j F1 S1, Wk S0 F S F1 S1 ∧ I j F1 S1) ∧
      ∀ j F S, I j F S → awp P S0 b F S (seqQ (fun F' S' => ∃ j' F1 S1, j' < j ∧ Wk S0 F' S' F1 S1 ∧ I j' F1 S1) Q)
  | .exit id, F, S, Q => Q (.exit id) F S
  | .ret, F, S, Q => Q .ret F S

/-! ### The compiler -/

/-- The pairs of places that must be told apart: a load and a store that the text leaves in either order. -/
def sepsOf (m : CMode) (ops : Array Oper) (as : List AOper) : List (Nat × Nat) :=
  let B := Region.before ops
  (List.range as.length).flatMap fun i => (List.range i).filterMap fun a =>
    if (B.getD i 0).testBit a then none else
    match as[a]?, as[i]? with
    | some oa, some oi => if sepReq (oa.op.ac m) (oi.op.ac m) then (match oa.op.at, oi.op.at with | .t x, .t y => some (x, y) | _, _ => none) else none
    | _, _ => none

def cmodeOf (same : List Nat) (id : Nat) : CMode := if same.contains id then .same else .univ

def compDrawn (m : CMode) (ops : Array Oper) (as : List AOper) (seps : List (Nat × Nat)) : Option ACode := if regCheck m ops as seps then some (.drawn m seps as) else none

def compCode (P : Program) (nt : Nat) (same : List Nat) : Code → Option ACode
  | .skip => some .skip
  | .region _ ops false => (compOpers P nt ops ops.toList).map .reg
  | .region id ops true => match compOpers P nt ops ops.toList with
    | some as => compDrawn (cmodeOf same id) ops as (sepsOf (cmodeOf same id) ops as)
    | none => none
  | .seq a b => match compCode P nt same a, compCode P nt same b with
    | some x, some y => some (.seq x y)
    | _, _ => none
  | .cond c a b => match opd c, compCode P nt same a, compCode P nt same b with
    | some c, some x, some y => some (.cond c x y)
    | _, _, _ => none
  | .block id b => (compCode P nt same b).map (.block id)
  | .loop b => (compCode P nt same b).map .loop
  | .exit id => some (.exit id)
  | .ret => some .ret
  | _ => none

/-! ### It is sound -/

section
variable {P : Program} {G0 : Gh} {S0 : St} {w0 : World}

def Post (G0 : Gh) (S0 : St) (w0 : World) (nt : Nat) (ds : List Deferred) (Q : Exit → (Nat → AV) → St → Prop) : Exit → Act → World → Prop := fun e a w =>
  ∃ F S G, Q e F S ∧ Ext G0 S0 w0 G S w ∧ Sim G S w ∧ FRep G w F a ∧ a.defers = ds ∧ a.tmps.size = nt ∧ S0.n ≤ S.n ∧ ∀ k, k < S0.n → G.live k = true → G0.live k = true

theorem Sim.more {G : Gh} {S : St} {w : World} (h : Sim G S w) (k : Nat) : Sim G { S with n := S.n + k } w :=
  ⟨⟨h.blk, fun i hi => Nat.lt_of_lt_of_le (h.bnd i hi) (Nat.le_add_right _ _), h.set, h.free⟩, h.own⟩

theorem Ext.n_right {G G' : Gh} {S S' : St} {w w' : World} (h : Ext G S w G' S' w') (k : Nat) : Ext G S w G' { S' with n := k } w' :=
  ⟨h.toLe, h.os, h.tape, h.output, h.size, h.kept, h.own⟩

theorem live_fresh {G : Gh} {S : St} {w : World} (h : Sim G S w) {k : Nat} (hk : S.n ≤ k) : G.live k = false := by
  cases hq : G.live k with
  | false => rfl
  | true => have := h.bnd k hq; omega

theorem awp_sound (hm : P.follows .mixedOrders = true) (h0 : Sim G0 S0 w0) {nt : Nat} {same : List Nat} : ∀ (c : Code) (ac : ACode), compCode P nt same c = some ac → ∀ (F : Nat → AV) (S : St) (Q : Exit → (Nat → AV) → St → Prop), awp P S0 ac F S Q →
    ∀ (G : Gh) (w : World) (a : Act), Ext G0 S0 w0 G S w → Sim G S w → FRep G w F a → a.tmps.size = nt → S0.n ≤ S.n → (∀ k, k < S0.n → G.live k = true → G0.live k = true) → c.wp P (Post G0 S0 w0 nt a.defers Q) a w := by
  intro c
  induction c with
  | skip =>
    intro ac hc F S Q h G w a he hS hF hz hn hv
    simp only [compCode, Option.some.injEq] at hc
    subst hc
    exact wp_skip ⟨F, S, G, h, he, hS, hF, rfl, hz, hn, hv⟩
  | region id ops draw =>
    intro ac hc F S Q h G w a he hS hF hz hn hv
    cases draw with
    | false =>
      simp only [compCode, Option.map_eq_some_iff] at hc
      obtain ⟨as, h1, rfl⟩ := hc
      have hl := (compOpers_get h1).1
      simp only [awp] at h
      refine wp_region_list (aops_sound ops.toList as S.n G _ w F a _ h1 hz (hS.more _) hF (fun i hi => live_fresh hS (by omega)) (by simp [hl]) h ?_)
      intro F' S' G' w' a' hQ he' hS' hF' hd hz' hn' hv'
      exact ⟨F', S', G', hQ, (he.n_right _).trans he', hS', hF', hd, hz', by rw [hn']; simp; omega, fun k hk h9 => hv k hk (hv' k (by omega) h9)⟩
    | true =>
      simp only [compCode] at hc
      split at hc
      · rename_i as h1
        simp only [compDrawn] at hc
        split at hc
        · rename_i hck
          simp only [Option.some.injEq] at hc
          subst hc
          have hl := (compOpers_get h1).1
          simp only [awp] at h
          refine wp_region_any hm ?_
          obtain ⟨Ff, Sf, hR, hsep, hQ⟩ := runs_of_aops (by unfold cmodeOf; split <;> simp) (as := as) (n0 := S.n) as 0 F _ (fun j => by simp) h
          have hrest : rest ops.size (Array.replicate ops.size false) = List.range' 0 as.length := by
            rw [hl, Array.length_toList, ← List.range_eq_range']
            simp only [rest]
            apply List.filter_eq_self.2
            intro i hi
            simp only [List.mem_range] at hi
            simp [hi]
          refine any_sound (Ff := Ff) (Sf := Sf) (n0 := S.n) h1 hck hsep ops.size _ G { S with n := S.n + as.length } w.drew F a ?_ (by simp) ?_ hz (hS.more _).drew (fun t => (hF t).mono (Ext.drew G S w).toLe) (fun j hj => live_fresh hS (by omega)) (by simp [hl]) (by rw [hrest]; exact hR) ?_
          · rw [hrest]; simp [hl]
          · intro i o ho hlist
            exfalso
            have hi : i < ops.size := (Array.getElem?_eq_some_iff.1 ho).1
            simp [hi] at hlist
          · intro G' w' a' he' hS' hF' hd hz' hn' hv'
            exact ⟨Ff, Sf, G', hQ, ((he.n_right _).trans (Ext.drew G _ w)).trans he', hS', hF', hd, hz', by rw [hn']; simp; omega, fun k hk h9 => hv k hk (hv' k (by omega) h9)⟩
        · cases hc
      · cases hc
  | seq x y ihx ihy =>
    intro ac hc F S Q h G w a he hS hF hz hn hv
    simp only [compCode] at hc
    split at hc
    · rename_i ax ay h1 h2
      simp only [Option.some.injEq] at hc
      subst hc
      simp only [awp] at h
      refine wp_seq (wp_mono (ihx ax h1 F S _ h G w a he hS hF hz hn hv) ?_)
      rintro e a' w' ⟨F', S', G', hq, he', hS', hF', hd, hz', hn', hv'⟩
      cases e with
      | normal => rw [← hd]; exact ihy ay h2 F' S' Q hq G' w' a' he' hS' hF' hz' hn' hv'
      | exit id => exact ⟨F', S', G', hq, he', hS', hF', hd, hz', hn', hv'⟩
      | goto l => exact ⟨F', S', G', hq, he', hS', hF', hd, hz', hn', hv'⟩
      | ret => exact ⟨F', S', G', hq, he', hS', hF', hd, hz', hn', hv'⟩
      | panic ch => exact ⟨F', S', G', hq, he', hS', hF', hd, hz', hn', hv'⟩
      | outgrown => exact ⟨F', S', G', hq, he', hS', hF', hd, hz', hn', hv'⟩
    · cases hc
  | cond c x y ihx ihy =>
    intro ac hc F S Q h G w a he hS hF hz hn hv
    simp only [compCode] at hc
    split at hc
    · rename_i c' ax ay h1 h2 h3
      simp only [Option.some.injEq] at hc
      subst hc
      simp only [awp] at h
      split at h
      · rename_i q hq
        have hr := opd_sound h1 hF
        rw [hq] at hr
        refine wp_cond (rep_bool hr) ?_
        cases q
        · simp only [Bool.false_eq_true, if_false] at h ⊢
          exact ihy ay h3 F S Q h G w a he hS hF hz hn hv
        · simp only [if_true] at h ⊢
          exact ihx ax h2 F S Q h G w a he hS hF hz hn hv
      · exact h.elim
    · cases hc
  | block id x ih =>
    intro ac hc F S Q h G w a he hS hF hz hn hv
    simp only [compCode, Option.map_eq_some_iff] at hc
    obtain ⟨ax, h1, rfl⟩ := hc
    simp only [awp] at h
    refine wp_block (wp_mono (ih ax h1 F S _ h G w a he hS hF hz hn hv) ?_)
    rintro e a' w' ⟨F', S', G', hq, he', hS', hF', hd, hz', hn', hv'⟩
    cases e with
    | exit id' =>
      simp only [blockQ] at hq
      simp only [Exit.inBlock]
      split
      · rename_i hid; rw [if_pos hid] at hq; exact ⟨F', S', G', hq, he', hS', hF', hd, hz', hn', hv'⟩
      · rename_i hid; rw [if_neg hid] at hq; exact ⟨F', S', G', hq, he', hS', hF', hd, hz', hn', hv'⟩
    | normal => exact ⟨F', S', G', hq, he', hS', hF', hd, hz', hn', hv'⟩
    | goto l => exact ⟨F', S', G', hq, he', hS', hF', hd, hz', hn', hv'⟩
    | ret => exact ⟨F', S', G', hq, he', hS', hF', hd, hz', hn', hv'⟩
    | panic ch => exact ⟨F', S', G', hq, he', hS', hF', hd, hz', hn', hv'⟩
    | outgrown => exact ⟨F', S', G', hq, he', hS', hF', hd, hz', hn', hv'⟩
  | loop x ih =>
    intro ac hc F S Q h G w a he hS hF hz hn hv
    simp only [compCode, Option.map_eq_some_iff] at hc
    obtain ⟨ax, h1, rfl⟩ := hc
    simp only [awp] at h
    obtain ⟨I, ⟨j0, F1, S1, hwk, hI⟩, hround⟩ := h
    -- the measure of a frame and a world: that of the least state that fits
    let J : Nat → Act → World → Prop := fun n a' w' => ∃ F' S' G', I n F' S' ∧ Ext G0 S0 w0 G' S' w' ∧ Sim G' S' w' ∧ FRep G' w' F' a' ∧ a'.defers = a.defers ∧ a'.tmps.size = nt ∧ S0.n ≤ S'.n ∧ ∀ k, k < S0.n → G'.live k = true → G0.live k = true
    have key : ∀ n a' w', J n a' w' → ∀ b k cs, ∃ e a2 w2, Post G0 S0 w0 nt a.defers Q e a2 w2 ∧ Arrives P (lone (b.at a' (.code x :: .inLoop x :: k)) cs w') b k cs e a2 w2 := by
      intro n
      induction n using Nat.strongRecOn with
      | _ n ihn =>
        rintro a' w' ⟨F', S', G', hI', he', hS', hF', hd', hz', hn', hv'⟩ b k cs
        have hb := ih ax h1 F' S' _ (hround n F' S' hI') G' w' a' he' hS' hF' hz' hn' hv'
        obtain ⟨e, a₁, w₁, ⟨F2, S2, G2, hq, he2, hS2, hF2, hd2, hz2, hn2, hv2⟩, harr⟩ := hb b (.inLoop x :: k) cs
        have hd2' : a₁.defers = a.defers := hd2.trans hd'
        cases e with
        | normal =>
          obtain ⟨j3, F3, S3, hlt, hwk3, hI3⟩ := hq
          have hj : J j3 a₁ w₁ := ⟨F3, S3, G2.cut S3.n, hI3, Ext.wk h0 he2 hwk3.st, Sim.wk hS2 hwk3.st h0, hF2.wk hwk3.fr, hd2', hz2, hwk3.st.lo, fun k hk h9 => hv2 k hk (cut_live h9)⟩
          obtain ⟨e₂, a₂, w₂, hq₂, harr₂⟩ := ihn j3 hlt a₁ w₁ hj b k cs
          exact ⟨e₂, a₂, w₂, hq₂, .of_steps (Steps.trans harr (.one step_inLoop)) harr₂⟩
        | exit id => exact ⟨_, a₁, w₁, ⟨F2, S2, G2, hq, he2, hS2, hF2, hd2', hz2, hn2, hv2⟩, .pass (x := .inLoop x) rfl (fun _ _ => .inl (by simp)) harr⟩
        | goto l => exact ⟨_, a₁, w₁, ⟨F2, S2, G2, hq, he2, hS2, hF2, hd2', hz2, hn2, hv2⟩, .pass (x := .inLoop x) rfl (fun _ _ => .inl (by simp)) harr⟩
        | ret => exact ⟨_, a₁, w₁, ⟨F2, S2, G2, hq, he2, hS2, hF2, hd2', hz2, hn2, hv2⟩, .pass (x := .inLoop x) rfl (fun _ _ => .inl (by simp)) harr⟩
        | panic ch => exact ⟨_, a₁, w₁, ⟨F2, S2, G2, hq, he2, hS2, hF2, hd2', hz2, hn2, hv2⟩, .pass (x := .inLoop x) rfl (fun _ _ => .inl (by simp)) harr⟩
        | outgrown => exact ⟨_, a₁, w₁, ⟨F2, S2, G2, hq, he2, hS2, hF2, hd2', hz2, hn2, hv2⟩, .pass (x := .inLoop x) rfl (fun _ _ => .inl (by simp)) harr⟩
    intro b k cs
    obtain ⟨e, a2, w2, hq, harr⟩ := key _ a w ⟨F1, S1, G.cut S1.n, hI, Ext.wk h0 he hwk.st, Sim.wk hS hwk.st h0, hF.wk hwk.fr, rfl, hz, hwk.st.lo, fun k hk h9 => hv k hk (cut_live h9)⟩ b k cs
    exact ⟨e, a2, w2, hq, .of_steps (.one step_loop) harr⟩
  | exit id =>
    intro ac hc F S Q h G w a he hS hF hz hn hv
    simp only [compCode, Option.some.injEq] at hc
    subst hc
    exact wp_exit ⟨F, S, G, h, he, hS, hF, rfl, hz, hn, hv⟩
  | ret =>
    intro ac hc F S Q h G w a he hS hF hz hn hv
    simp only [compCode, Option.some.injEq] at hc
    subst hc
    exact wp_ret ⟨F, S, G, h, he, hS, hF, rfl, hz, hn, hv⟩
  | rangeFunc f ps x y _ _ => intro ac hc; simp [compCode] at hc
  | scope x _ => intro ac hc; simp [compCode] at hc
  | label l => intro ac hc; simp [compCode] at hc
  | goto l => intro ac hc; simp [compCode] at hc
  | refuse why => intro ac hc; simp [compCode] at hc

end
end Go.Cw
