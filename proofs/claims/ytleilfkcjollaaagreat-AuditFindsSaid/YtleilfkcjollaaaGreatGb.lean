/- Instructions: their kinds, and which ones are right; what the program and the reference say of them. No condition. -/
import Derived.Test.YtleilfkcjollaaaGreatProg
import Derived.Test.YtleilfkcjollaaaGreatGa
set_option linter.unusedVariables false
namespace Go.Proofs.YtleilfkcjollaaaGreat
open Go.RowKit Go.RR

/-- An instruction. -/
structure In where
  op : Int
  rd : Int
  rs : Int
  rt : Int
  im : Int
deriving DecidableEq
def In.cells (i : In) : List Value := [.int .i64 i.op, .int .i64 i.rd, .int .i64 i.rs, .int .i64 i.rt, .int .i64 i.im]

inductive Kd | z | N | I | RI | R | U | B | J | L | S | A
deriving DecidableEq
def Kd.s : Kd → ByteArray
  | .z => ⟨#[]⟩ | .N => ⟨#[78]⟩ | .I => ⟨#[73]⟩ | .RI => ⟨#[82, 73]⟩ | .R => ⟨#[82]⟩ | .U => ⟨#[85]⟩ | .B => ⟨#[66]⟩ | .J => ⟨#[74]⟩ | .L => ⟨#[76]⟩ | .S => ⟨#[83]⟩ | .A => ⟨#[65]⟩
def kdL : List Kd := [.N, .I, .RI, .RI, .R, .R, .R, .R, .R, .R, .R, .R, .R, .U, .U, .B, .B, .B, .J, .L, .L, .L, .L, .L, .L, .L, .S, .S, .S, .S, .A, .A, .A, .A, .N]
def kd (o : Int) : Kd := if 0 ≤ o then kdL.getD o.toNat .z else .z
/-- Which parts has a kind? -/
def Kd.d : Kd → Bool
  | .I | .J | .RI | .L | .R | .A | .U => true
  | _ => false
def Kd.q : Kd → Bool
  | .RI | .L | .R | .A | .U | .B | .S => true
  | _ => false
def Kd.t : Kd → Bool
  | .R | .A | .B | .S => true
  | _ => false
def Kd.i : Kd → Bool
  | .I | .J | .RI | .L | .B | .S => true
  | _ => false
def okr (r : Int) (h : Bool) : Bool := (decide (r = 0) || h) && decide (0 ≤ r) && decide (r ≤ 15)
def rightB (i : In) : Bool := !decide (kd i.op = .z) && decide (-2048 ≤ i.im) && decide (i.im ≤ 2047) && okr i.rd (kd i.op).d && okr i.rs (kd i.op).q && okr i.rt (kd i.op).t && (decide (i.im = 0) || (kd i.op).i)

theorem kd_neg {o : Int} (h : o < 0) : kd o = .z := by unfold kd; rw [if_neg (by omega)]
theorem kd_big {o : Int} (h : 35 ≤ o) : kd o = .z := by
  unfold kd
  rw [if_pos (by omega), List.getD_eq_getElem?_getD, List.getElem?_eq_none (by have : kdL.length = 35 := rfl; omega)]
  rfl
theorem ret_bool {a b : Bool} (h : a = b) : Ending.returned (.bool a) = .returned (.bool b) := by rw [h]
end Go.Proofs.YtleilfkcjollaaaGreat
