/- GUARDS: which kind of operation comes next (each says nothing: it only lets a rule be tried where it may apply). -/
import Derived.Test.YtinenepjloodcaaCwR
import Derived.Test.YtinenepjloodcaaCwW
import Derived.Test.YtinenepjloodcaaCwFs
set_option linter.unusedVariables false
namespace Go.Cw
section
variable {P : Program} {m : CMode} {os : List AOper} {id : Nat} {F : Nat → AV} {S S0 : St} {K : (Nat → AV) → St → Prop} {d n : Nat} {H : List (Nat × Blk)} {x y c : Opd} {dst : Option Nat}
theorem i_ops {o : AOper} (h : aops P m (o :: os) id F S K) : aops P m (o :: os) id F S K := h
theorem i_op {o : AOp} (h : aops P m (⟨dst, o, none⟩ :: os) id F S K) : aops P m (⟨dst, o, none⟩ :: os) id F S K := h
theorem i_guard {o : AOp} {t : Nat × Bool} (h : aops P m (⟨dst, o, some t⟩ :: os) id F S K) : aops P m (⟨dst, o, some t⟩ :: os) id F S K := h
theorem i_mov (h : aops P m (⟨dst, .mov x, none⟩ :: os) id F S K) : aops P m (⟨dst, .mov x, none⟩ :: os) id F S K := h
theorem i_pick {a b : Opd} (h : aops P m (⟨dst, .pick c a b, none⟩ :: os) id F S K) : aops P m (⟨dst, .pick c a b, none⟩ :: os) id F S K := h
theorem i_alloc {z : List AV} (h : aops P m (⟨dst, .alloc z, none⟩ :: os) id F S K) : aops P m (⟨dst, .alloc z, none⟩ :: os) id F S K := h
theorem i_box (h : aops P m (⟨dst, .box x, none⟩ :: os) id F S K) : aops P m (⟨dst, .box x, none⟩ :: os) id F S K := h
theorem i_build {z : List AV} {ps : List (Nat × Nat × Opd)} (h : aops P m (⟨dst, .build z ps, none⟩ :: os) id F S K) : aops P m (⟨dst, .build z ps, none⟩ :: os) id F S K := h
theorem i_bslice {sz l : Nat} {z : List AV} {ps : List (Nat × Nat × Opd)} (h : aops P m (⟨dst, .bslice sz z l ps, none⟩ :: os) id F S K) : aops P m (⟨dst, .bslice sz z l ps, none⟩ :: os) id F S K := h
theorem i_load1 (h : aops P m (⟨dst, .load1 x, none⟩ :: os) id F S K) : aops P m (⟨dst, .load1 x, none⟩ :: os) id F S K := h
theorem i_loadA {j : Nat} (h : aops P m (⟨dst, .loadA j x, none⟩ :: os) id F S K) : aops P m (⟨dst, .loadA j x, none⟩ :: os) id F S K := h
theorem i_store {j : Nat} (h : aops P m (⟨dst, .store j x y, none⟩ :: os) id F S K) : aops P m (⟨dst, .store j x y, none⟩ :: os) id F S K := h
theorem i_fadr {j : Nat} (h : aops P m (⟨dst, .fadr j x, none⟩ :: os) id F S K) : aops P m (⟨dst, .fadr j x, none⟩ :: os) id F S K := h
theorem i_iadrA {l sz : Nat} (h : aops P m (⟨dst, .iadrA l sz x y, none⟩ :: os) id F S K) : aops P m (⟨dst, .iadrA l sz x y, none⟩ :: os) id F S K := h
theorem i_iadrS {sz : Nat} (h : aops P m (⟨dst, .iadrS sz x y, none⟩ :: os) id F S K) : aops P m (⟨dst, .iadrS sz x y, none⟩ :: os) id F S K := h
theorem i_arith (op : BinOp) (h : aops P m (⟨dst, .arith op x y, none⟩ :: os) id F S K) : aops P m (⟨dst, .arith op x y, none⟩ :: os) id F S K := h
theorem i_eqB {b : Bool} (h : aops P m (⟨dst, .eqB b x y, none⟩ :: os) id F S K) : aops P m (⟨dst, .eqB b x y, none⟩ :: os) id F S K := h
theorem i_eqA {L : List (Option IntKind)} {b : Bool} (h : aops P m (⟨dst, .eqA L b x y, none⟩ :: os) id F S K) : aops P m (⟨dst, .eqA L b x y, none⟩ :: os) id F S K := h
theorem i_eqNil {k : Nat} {b : Bool} (h : aops P m (⟨dst, .eqNil k b x y, none⟩ :: os) id F S K) : aops P m (⟨dst, .eqNil k b x y, none⟩ :: os) id F S K := h
theorem i_not (h : aops P m (⟨dst, .not x, none⟩ :: os) id F S K) : aops P m (⟨dst, .not x, none⟩ :: os) id F S K := h
theorem i_neg (h : aops P m (⟨dst, .neg x, none⟩ :: os) id F S K) : aops P m (⟨dst, .neg x, none⟩ :: os) id F S K := h
theorem i_ext {i : Nat} (h : aops P m (⟨dst, .ext i x, none⟩ :: os) id F S K) : aops P m (⟨dst, .ext i x, none⟩ :: os) id F S K := h
theorem i_slice {sz : Nat} {lo hi mx : Option Opd} (h : aops P m (⟨dst, .slice sz x lo hi mx, none⟩ :: os) id F S K) : aops P m (⟨dst, .slice sz x lo hi mx, none⟩ :: os) id F S K := h
theorem i_mkfn {f : Nat} {cs : List Opd} (h : aops P m (⟨dst, .mkfn f cs, none⟩ :: os) id F S K) : aops P m (⟨dst, .mkfn f cs, none⟩ :: os) id F S K := h
theorem i_lenS (h : aops P m (⟨dst, .lenS x, none⟩ :: os) id F S K) : aops P m (⟨dst, .lenS x, none⟩ :: os) id F S K := h
theorem i_append {sz by_ : Nat} (h : aops P m (⟨dst, .append sz by_ x y, none⟩ :: os) id F S K) : aops P m (⟨dst, .append sz by_ x y, none⟩ :: os) id F S K := h
theorem i_minmax {b : Bool} {xs : List Opd} (h : aops P m (⟨dst, .minmax b x xs, none⟩ :: os) id F S K) : aops P m (⟨dst, .minmax b x xs, none⟩ :: os) id F S K := h
theorem i_call {args : List Opd} (f : Nat) (h : aops P m (⟨dst, .call f args, none⟩ :: os) id F S K) : aops P m (⟨dst, .call f args, none⟩ :: os) id F S K := h
theorem i_callv {args : List Opd} (h : aops P m (⟨dst, .callv x args, none⟩ :: os) id F S K) : aops P m (⟨dst, .callv x args, none⟩ :: os) id F S K := h
theorem i_callF {sz : Nat} {args : List Opd} (f : Nat) (h : aops P m (⟨dst, .mp (.callF f sz args), none⟩ :: os) id F S K) : aops P m (⟨dst, .mp (.callF f sz args), none⟩ :: os) id F S K := h
theorem i_mp {o : MOp} (h : aops P m (⟨dst, .mp o, none⟩ :: os) id F S K) : aops P m (⟨dst, .mp o, none⟩ :: os) id F S K := h
theorem i_awp {a : ACode} {Q : Exit → (Nat → AV) → St → Prop} (h : awp P S0 a F S Q) : awp P S0 a F S Q := h
end
end Go.Cw
