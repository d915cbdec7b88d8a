/- A program's text, by the program. No condition. -/
import Derived.Test.YtfidiiifcmmffaaGreatDoorAsm22
import Derived.Test.YtfidiiifcmmffaaGreatDoorAsm9
import Derived.Test.YtfidiiifcmmffaaGreatDoorAsmP8
set_option linter.unusedVariables false
set_option linter.unusedSimpArgs false
namespace Go.Proofs.YtfidiiifcmmffaaGreatDoor
open Go.RowKit Go.RR
theorem builder_chg {T e : TypeId} {B b : Nat} {bs : List Value} {w w' : World} (h : Go.Lib.IsBuilder T e B b bs w) (c : Chg NoB w w') : Go.Lib.IsBuilder T e B b bs w' := by
  have go : ∀ p, Go.Lib.BuilderAt T e B b p bs w → Go.Lib.BuilderAt T e B b p bs w' := by
    rintro p ⟨hB, v, hbk, hown, hne⟩
    exact ⟨hB, v, (c.block b (Array.getElem?_eq_some_iff.1 hbk).1 id).trans hbk, c.owns hown, hne⟩
  rcases h with h | h
  · exact .inl (go _ h)
  · exact .inr (go _ h)
theorem builder_new (w : World) : Go.Lib.IsBuilder 82 5 w.heap.size w.heap.size [] (w.alloc (.cells #[.pointer none, .slice none 0 0] 82)) :=
  .inl ⟨Nat.le_refl _, .slice none 0 0, heap_alloc_new w _, ⟨rfl, .inl ⟨rfl, rfl⟩⟩, by simp [Value.ownBlock]⟩
theorem chg_below2 {w wr w' : World} (h : Chg NoB w wr) (b : Below w.heap.size wr w') : Chg NoB w w' := by
  obtain ⟨b1, b2, b3, b4, b5⟩ := b
  exact ⟨b1.trans h.os, b2.trans h.tape, b3.trans h.output, Nat.le_trans h.size b4, fun k hk hn => (b5 k hk).trans (h.block k hk hn)⟩
theorem str_byte (x : Bs) : Go.Lib.strCells ⟨x.toArray⟩ = Go.Lib.byteCells x := rfl
theorem text_len {i : In} (h : i64I i) : (printI i).length ≤ 160 := by
  unfold printI
  split
  · rw [textI_body]
    have h1 := name_len i.op
    have h2 : ∀ (cs : Bs) (k : Nat), cs.length ≤ 3 → (bodyT cs k i).length ≤ 48 * cs.length := by
      intro cs
      induction cs with
      | nil => intro k _; exact Nat.zero_le _
      | cons c cs ih =>
        intro k hk
        simp only [List.length_cons] at hk
        have h3 := ih (k + 1) (by omega)
        have h4 := partT_len (c := c) h
        have h5 : (sepA k).length ≤ 2 := by unfold sepA; split <;> simp
        show (sepA k ++ (partT c i ++ bodyT cs (k + 1) i)).length ≤ _
        simp only [List.length_append, List.length_cons]
        omega
    have h6 := h2 (shapeK (kd i.op)) 0 (shape_len _)
    have h7 := shape_len (kd i.op)
    rw [List.length_append]
    omega
  · simp
def textP (l : List In) : Bs := if l.all rightB = true then textL l else []
theorem textL_snoc (l : List In) (i : In) : textL (l ++ [i]) = textL l ++ (textI i ++ [10]) := by unfold textL; rw [List.flatMap_append]; simp
theorem take_snoc' {l : List In} {k : Nat} {i : In} (h : l[k]? = some i) : l.take (k + 1) = l.take k ++ [i] := by rw [List.take_add_one, h]; rfl
set_option maxHeartbeats 8000000 in
set_option maxRecDepth 100000 in
theorem text_any (S : Nat → Prop) (v : Value) (l : List In) (w : World) (hs : Sl w S 5 v l.length (iC l)) (hl : l.length ≤ 1000) (hi : ∀ i ∈ l, i64I i) (L : Lb w) : Calls Tryz.prog 19 #[v] w (RetW (.string ⟨(textP l).toArray⟩) fun w' => Chg NoB w w') := by
  obtain ⟨p, cap, rfl, hI⟩ := InsAt.of hs (by omega)
  have HI := Lib.hid hI
  have HA := Lib.hid hi
  have HL := Lib.hid L
  have HB0 := Lib.hid (builder_new w)
  have HC0 := Lib.hid ((Chg.refl NoB w).alloc (.cells #[.pointer none, .slice none 0 0] 82))
  clear hI hi L hs
  obtain ⟨n, hn⟩ : ∃ n, l.length = n := ⟨_, rfl⟩
  rw [hn] at hl ⊢
  have HN := Lib.hid hn
  clear hn
  go_enter Tryz.func19, Tryz.ntmps19
  go_wp2_with fail
  go_loopg [9] n (fun g ix wr => ∃ k : Nat, k + g = n ∧ ix = .int .i64 k ∧ (l.take k).all rightB = true ∧ (textL (l.take k)).length ≤ 161 * k ∧ Chg NoB w wr ∧ Go.Lib.IsBuilder 82 5 w.heap.size w.heap.size (Go.Lib.byteCells (textL (l.take k))) wr)
  case atStart => exact ⟨0, Nat.zero_add _, rfl, rfl, by simp [textL], HC0.out, HB0.out⟩
  case round =>
    obtain ⟨k, hk, rfl, hr, htl, hC, hB⟩ := hrel
    rename World => wr
    have HK := Lib.hid hk
    have HR := Lib.hid hr
    have HTL := Lib.hid htl
    have HC := Lib.hid hC
    have HB := Lib.hid hB
    have hkn : k ≤ n := by omega
    clear hk hr htl hC hB
    by_cases hlt : k < n
    · obtain ⟨i, hik⟩ : ∃ i, l[k]? = some i := ⟨_, List.getElem?_eq_getElem (by rw [HN.out]; exact hlt)⟩
      obtain ⟨g, of, rfl, hg, x0, x1, x2, x3, x4⟩ := (HI.out.chg0 HC.out).at hik
      have hcap := HI.out.cap
      rw [HN.out] at hcap
      have k0 : (0 : Int) ≤ k := by omega
      have k1 : (k : Int) < n := by omega
      have HIK := Lib.hid hik
      have HII := Lib.hid (HA.out i (List.mem_of_getElem? hik))
      have HC1 : Hid (Chg NoB w (wr.alloc (.cells (ic i) 24))) := Lib.hid (HC.out.alloc _)
      have HP := Lib.hid (print_any i (wr.alloc (.cells (ic i) 24)) HII.out (HL.out.chg0 HC1.out))
      clear hik
      go_wp2_with fail
      refine HP.out.mono ?_
      rintro e w2 ⟨rfl, C2⟩
      have HC2 := Lib.hid (HC1.out.step C2)
      have HB2 := Lib.hid (builder_chg (builder_chg HB.out ((Chg.refl NoB wr).alloc (.cells (ic i) 24))) C2)
      clear C2
      by_cases hri : rightB i = true
      · have hpt : printI i = textI i := by unfold printI; rw [if_pos hri]
        have htl := text_len HII.out
        rw [hpt] at htl ⊢
        have hok := text_ok hri
        have n1 : (textI i = []) = False := eq_false hok.ne
        have n2 : (textI i).isEmpty = false := by cases h : textI i with | nil => exact absurd h hok.ne | cons a b => rfl
        have n3 : (textI i == []) = false := by rw [beq_eq_false_iff_ne]; exact hok.ne
        have bl := bl_list (textI i)
        have l1 : ¬ 9223372036854775807 < (textI i).length + 1 := by omega
        have HTI := Lib.hid htl
        have HRI := Lib.hid hri
        have HSN : Hid (textL (l.take (k + 1)) = textL (l.take k) ++ (textI i ++ [10])) := Lib.hid (by rw [take_snoc' HIK.out, textL_snoc])
        have hlw : (Go.Lib.byteCells (textL (l.take k))).length + (⟨(textI i).toArray⟩ ++ ⟨#[10]⟩ : ByteArray).size ≤ 140737488355328 := by
          have := HTL.out
          rw [show (Go.Lib.byteCells (textL (l.take k))).length = (textL (l.take k)).length by simp [Go.Lib.byteCells], show (⟨#[10]⟩ : ByteArray) = ⟨([10] : Bs).toArray⟩ from rfl, bs_append]
          show _ + (textI i ++ [10] : Bs).toArray.size ≤ _
          simp only [List.size_toArray, List.length_append, List.length_cons, List.length_nil]
          omega
        have HWR := Lib.hid (writeString_any w.heap.size w.heap.size (Go.Lib.byteCells (textL (l.take k))) (⟨(textI i).toArray⟩ ++ ⟨#[10]⟩) _ HB2.out hlw HC2.out.size)
        clear hlw hok hpt hri htl
        go_wp2_with fail
        with_reducible refine HWR.out.mono ?_
        rintro e w5 ⟨rfl, hb5, hbel⟩
        have HB5 := Lib.hid hb5
        have HC5 := Lib.hid (chg_below2 HC2.out hbel)
        clear hb5 hbel
        go_wp2_with fail
        go_roundg (n - (k + 1))
        case measure => have := HK.out; omega
        case rel => exact ⟨k + 1, by have := HK.out; omega, by go_num, by rw [take_snoc' HIK.out, List.all_append, HR.out]; simp [HRI.out], by
            have h1 := HTL.out
            have h2 := HTI.out
            rw [HSN.out]
            simp only [List.length_append, List.length_cons, List.length_nil]
            omega, HC5.out, .inr (by
            have h := HB5.out
            rw [show (⟨(textI i).toArray⟩ ++ ⟨#[10]⟩ : ByteArray) = ⟨(textI i ++ [10]).toArray⟩ from bs_append _ _, str_byte] at h
            rw [HSN.out, show Go.Lib.byteCells (textL (l.take k) ++ (textI i ++ [10])) = Go.Lib.byteCells (textL (l.take k)) ++ Go.Lib.byteCells (textI i ++ [10]) by unfold Go.Lib.byteCells; rw [List.map_append]]
            exact h)⟩
      · have hpt : printI i = [] := by unfold printI; rw [if_neg hri]
        have HF : Hid (textP l = []) := Lib.hid (by
          unfold textP
          rw [if_neg (fun h => hri (List.all_eq_true.1 h i (List.mem_of_getElem? HIK.out)))])
        rw [hpt]
        clear hri hpt
        go_wp2_with fail
        go_ret
        exact ⟨by rw [HF.out]; rfl, HC2.out⟩
    · obtain rfl : n = k := by omega
      have HF : Hid (textP l = textL (l.take n)) := Lib.hid (by
        have h := HR.out
        rw [List.take_of_length_le (by rw [HN.out]; exact Nat.le_refl _)] at h ⊢
        unfold textP
        rw [if_pos h])
      have HSB := Lib.hid (Tryz.Builder_String_any w.heap.size w.heap.size (textL (l.take n)) wr HB.out HC.out.size)
      go_wp2_with fail
      with_reducible refine HSB.out.mono ?_
      rintro e w2 ⟨rfl, hb2⟩
      have HC2 := Lib.hid (chg_below2 HC.out hb2)
      clear hb2
      go_wp2_with fail
      go_ret
      exact ⟨by rw [HF.out]; rfl, HC2.out⟩
end Go.Proofs.YtfidiiifcmmffaaGreatDoor
