/-
  ShrinkEach: for every input the law returns true and each argument reads behind the call as it read before. No condition.
-/
import Derived.Test.YtokigldggkkbcaaRows
import Derived.Test.YtokigldggkkbcaaShrinkEach3
import Derived.Test.YtokigldggkkbcaaIn
import Derived.WalkKit
import Derived.ProofKit
import Derived.OpenShut
import Derived.ShutString
import Derived.ChangeOld
import Derived.Below
namespace Go.Proofs.Ytokigldggkkbcaa.shrinkEach
open Go.ChangeShapes Go.WideShapes Go.ChangeAt Go.RowKit Go.RR
open Go.ChangeMaps (open_string shut_string)
set_option linter.unusedVariables false

theorem own : ownKnob Try.prog.godebug = none := by kernel_rfl
theorem laidOut : laidOutB Try.prog = true := by kernel_rfl

theorem walk {H : Type} {enc : TypeId × Value → H} (b0 : Nat) (w : World) (a0 : Option Addr) (len0 cap0 : Nat) (r0 : Rd enc Try.prog w 22 [.slice a0 len0 cap0]) (a1 : Int) (w1 : (Lit.int .u8 a1).wf = true) :
    Calls Try.prog 12 #[.slice a0 len0 cap0, .int .u8 a1] w fun e w' => e = .returned (.bool true) ∧ Below w.heap.size w w' := by
  obtain ⟨zs, hl, hw, hn, hs⟩ := r0.ints Try.underlying22 Try.underlying5 (by kernel_rfl)
  have hb1 := bounds_u8 w1
  have hzb : ∀ (i : Nat) (z : Int), zs[i]? = some z → 0 ≤ z ∧ z ≤ 255 := fun i z hz => bounds_u8 (hw z (List.mem_of_getElem? hz))
  have he : zs.map (Value.int .u8) = u8s zs := List.map_congr_left fun z hz => by have := bounds_u8 (hw z hz); rw [show z % 256 = z from by omega]
  rw [← hl]
  rw [← hl] at hs hn
  rw [he] at hs
  exact (shrinkEach_any _ zs a1 w hs hn hb1 hzb).mono fun e w' ⟨he, hc⟩ => ⟨he, hc.below (Nat.le_refl _) (fun _ h => h.elim)⟩

set_option maxRecDepth 100000 in
theorem lifted (os : Os) (started : os.Started) (H : Type) (enc : TypeId × Value → H) :
    ReturnsInHanded {} Try.checked os 12 .any (Rows.shrinkEachSpec.pre6 enc Try.prog Try.f12 Rows.shrinkEachRow.domain false) (Rows.shrinkEachSpec.post enc Try.prog Try.f12 false true false false) := by
  refine returnsInHanded_of_change (C := Try.checked) own started (by kernel_rfl) Try.func12
    (ChangeSpec.witness6 (enc := enc) (C := Try.checked) false ⟨#[], #[.slice none 0 0, .int .u8 0], []⟩ 8 (by kernel_rfl) (by kernel_rfl) (by kernel_rfl) (by kernel_rfl)) ?_
  intro W base args ds gs before hval0 hW hcnd _
  have hval : ∀ (j : Nat) t v, Try.f12.params[j]? = some t → args[j]? = some v → Value.okWide Try.prog W .any base t v := hval0
  have hW' := hW
  obtain ⟨p, q, hA0, hV, rfl, hfz, hnd⟩ := hW
  have hA : DataW.TrodAll enc Try.prog W 0 (fun _ => true) true Try.f12.params.toList args.toList ds p := hA0
  rw [Try.params12] at hA hval
  obtain ⟨v0, vs0, d0, ds0, p0, q0, hargs, rfl, rfl, h0, r0⟩ := trodAll_cons hA
  obtain ⟨v1, vs1, d1, ds1, p1, q1, rfl, rfl, rfl, h1, r1⟩ := trodAll_cons r0
  obtain ⟨rfl, rfl, rfl⟩ := trodAll_nil r1
  obtain rfl : args = #[v0, v1] := by cases args; simp_all
  obtain ⟨rfl, rfl⟩ := trodVars_none hV
  obtain ⟨a0, len0, cap0, rfl⟩ := okWide_slice Try.underlying22 (hval 0 22 v0 rfl rfl)
  have k0 := h0
  have lt0 : ∀ x ∈ p0, x.block < W.heap.size := by obtain ⟨m, hm⟩ := k0; exact DataW.trod_lt m _ _ _ hm
  obtain ⟨a1, rfl, rfl, rfl, w1⟩ := open_int Try.underlying5 (hval 1 5 v1 rfl rfl) h1
  refine (walk base W a0 len0 cap0 (Rd.of h0) a1 w1).mono fun e W' ⟨he, bel⟩ => ?_
  subst he
  exact ⟨_, rfl, _, _, _, [], _, [], hW', trodAll_mk1 (shut_bool Try.underlying4 _), (trodAll_cons_mk (Below.trod laidOut (by kernel_rfl) (of_decide_eq_true (by kernel_rfl)) k0 bel lt0) (trodAll_cons_mk (shut_int Try.underlying5 w1) trodAll_mk0)), rfl, bel.frame _, fun h => by cases h⟩

theorem over : Rows.shrinkEachRow.holds Try.pinned (OpenSpec.ofChange Rows.shrinkEachSpec) :=
  OpenClaim.holds_of_wide 12 Try.f12 rfl rfl rfl rfl rfl rfl rfl ⟨rfl, rfl, rfl, rfl, rfl⟩ rfl rfl rfl rfl rfl (by kernel_rfl) Try.func12 (by kernel_rfl)
    (of_decide_eq_true (by kernel_rfl)) (by unfold Func.isWrapper; first | (rw [if_pos (by decide +kernel)]; kernel_rfl) | (rw [if_neg (by decide +kernel)]; exact ⟨rfl, rfl⟩))
    (fun os started H enc _ => lifted os started H enc)

theorem proved : Rows.ShrinkEachSaid := over
#print axioms proved
end Go.Proofs.Ytokigldggkkbcaa.shrinkEach
