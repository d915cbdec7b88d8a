/- A program's text, with or without noise, parsed again: plain. No condition. -/
import Derived.Test.YtfidiiifcmmffaaGreatDoorAsmP7
set_option linter.unusedVariables false
set_option linter.unusedSimpArgs false
namespace Go.Proofs.YtfidiiifcmmffaaGreatDoor
open Go.RowKit Go.RR
open Go.Lib
theorem join_no {c : UInt8} (h1 : c ≠ 44) (h2 : c ≠ 32) : ∀ (ps : List Bs), (∀ p ∈ ps, c ∉ p) → c ∉ join ps [44, 32]
  | [], _ => by intro h; cases h
  | [x], h => by rw [join_one]; exact h x (List.mem_cons_self ..)
  | x :: y :: ys, h => by
    rw [join_sep]
    intro hm
    rcases List.mem_append.1 hm with hm | hm
    · exact h x (List.mem_cons_self ..) hm
    · rcases List.mem_cons.1 hm with hm | hm
      · exact h1 hm
      · rcases List.mem_cons.1 hm with hm | hm
        · exact h2 hm
        · exact join_no h1 h2 (y :: ys) (fun p hp => h p (List.mem_cons_of_mem _ hp)) hm
theorem join_last : ∀ (ps : List Bs), ps ≠ [] → (∀ p ∈ ps, p ≠ [] ∧ (32 : UInt8) ∉ p) → join ps [44, 32] ≠ [] ∧ (join ps [44, 32]).getLast? ≠ some 32
  | [], h, _ => absurd rfl h
  | [x], _, h => by
    obtain ⟨h1, h2⟩ := h x (List.mem_cons_self ..)
    rw [join_one]
    exact ⟨h1, fun e => h2 (List.mem_of_getLast? e)⟩
  | x :: y :: ys, _, h => by
    obtain ⟨h1, h2⟩ := join_last (y :: ys) (by simp) (fun p hp => h p (List.mem_cons_of_mem _ hp))
    rw [join_sep]
    refine ⟨by simp, ?_⟩
    rw [show x ++ 44 :: 32 :: join (y :: ys) [44, 32] = (x ++ [44, 32]) ++ join (y :: ys) [44, 32] by simp, List.getLast?_append]
    cases hl : (join (y :: ys) [44, 32]).getLast? with
    | none => exact absurd (List.getLast?_eq_none_iff.1 hl) h1
    | some c => rw [hl] at h2; simpa using h2
theorem parts_ne (i : In) : ∀ p ∈ partsI i, p ≠ [] := by
  have h1 : ∀ n, regT n ≠ [] := fun n h => by cases h
  have h2 : ∀ n m, plT n m ≠ [] := fun n m h => by unfold plT at h; simp at h
  have h3 : ∀ n, itoa n ≠ [] := fun n => itoa_ne n
  unfold partsI
  intro p hp
  split at hp <;> simp only [List.mem_cons, List.not_mem_nil, or_false] at hp <;> rcases hp with rfl | rfl | rfl <;> first | exact h1 _ | exact h2 _ _ | exact h3 _
structure TextOk (T : Bs) : Prop where
  ne : T ≠ []
  hd : T.head? ≠ some 32
  lst : T.getLast? ≠ some 32
  n10 : (10 : UInt8) ∉ T
  n35 : (35 : UInt8) ∉ T
  n58 : (58 : UInt8) ∉ T
theorem text_ok {i : In} (hr : rightB i = true) : TextOk (textI i) := by
  obtain ⟨k, hk, e⟩ := kd_op (right_fields hr).kd
  obtain ⟨hp, hne, _⟩ := names_plain k hk
  have hnm : nameI i.op = nameI (k : Nat) := by rw [e]
  have hno : ∀ c : UInt8, c = 10 ∨ c = 35 ∨ c = 58 → c ∉ textI i := by
    intro c hc hm
    have a1 : c ∉ nameI i.op := fun h => by
      rw [hnm] at h
      have := hp c h
      rcases hc with rfl | rfl | rfl <;> simp at this
    have a2 : c ∉ join (partsI i) [44, 32] := join_no (by rcases hc with rfl | rfl | rfl <;> decide) (by rcases hc with rfl | rfl | rfl <;> decide) _
      (parts_no (by rcases hc with rfl | rfl | rfl <;> decide) (by rcases hc with rfl | rfl | rfl <;> decide) (by rcases hc with rfl | rfl | rfl <;> decide) (by rcases hc with rfl | rfl | rfl <;> decide) (by rcases hc with rfl | rfl | rfl <;> decide))
    unfold textI at hm
    split at hm
    · exact a1 hm
    · rcases List.mem_append.1 hm with hm | hm
      · exact a1 hm
      · rcases List.mem_cons.1 hm with hm | hm
        · rcases hc with rfl | rfl | rfl <;> cases hm
        · exact a2 hm
  have hn32 : (32 : UInt8) ∉ nameI i.op := fun h => by rw [hnm] at h; exact (hp 32 h).1 rfl
  have hne' : nameI i.op ≠ [] := by rw [hnm]; exact hne
  obtain ⟨a, r, har⟩ : ∃ a r, nameI i.op = a :: r := by
    cases h : nameI i.op with
    | nil => exact absurd h hne'
    | cons a r => exact ⟨a, r, rfl⟩
  have ha : a ≠ 32 := fun h => hn32 (by rw [har, h]; exact List.mem_cons_self ..)
  refine ⟨?_, ?_, ?_, hno 10 (.inl rfl), hno 35 (.inr (.inl rfl)), hno 58 (.inr (.inr rfl))⟩
  · unfold textI; rw [har]; split <;> simp
  · unfold textI; rw [har]; split <;> simpa using ha
  · unfold textI
    split
    · intro h; exact hn32 (List.mem_of_getLast? h)
    · rename_i hpp
      obtain ⟨h1, h2⟩ := join_last (partsI i) hpp fun p hp => ⟨parts_ne i p hp, parts_no (by decide) (by decide) (by decide) (by decide) (by decide) p hp⟩
      rw [show nameI i.op ++ 32 :: join (partsI i) [44, 32] = (nameI i.op ++ [32]) ++ join (partsI i) [44, 32] by simp, List.getLast?_append]
      cases hl : (join (partsI i) [44, 32]).getLast? with
      | none => exact absurd (List.getLast?_eq_none_iff.1 hl) h1
      | some c => rw [hl] at h2; simpa using h2
theorem dropSp (T r : Bs) (h : T ≠ []) (hd : T.head? ≠ some 32) : ∀ k, (List.replicate k (32 : UInt8) ++ (T ++ r)).dropWhile (· == 32) = T ++ r
  | 0 => by
    obtain ⟨a, t, rfl⟩ : ∃ a t, T = a :: t := by cases T with
      | nil => exact absurd rfl h
      | cons a t => exact ⟨a, t, rfl⟩
    have ha : (a == 32) = false := by rw [beq_eq_false_iff_ne]; intro e; exact hd (by rw [e]; rfl)
    show List.dropWhile _ (a :: (t ++ r)) = _
    rw [List.dropWhile_cons_of_neg (by simp [ha])]
    rfl
  | k + 1 => by
    rw [List.replicate_succ]
    show List.dropWhile _ (32 :: (List.replicate k 32 ++ (T ++ r))) = _
    rw [List.dropWhile_cons_of_pos (by rfl)]
    exact dropSp T r h hd k
theorem trim_pad {T : Bs} (h : TextOk T) (a b : Nat) : trimB (List.replicate a (32 : UInt8) ++ T ++ List.replicate b 32) 32 = T := by
  unfold trimB trimLeftB trimRightB
  rw [List.reverse_append, List.reverse_append, List.reverse_replicate, List.reverse_replicate, dropSp T.reverse _ (by simpa using h.ne) (by rw [List.head?_reverse]; exact h.lst) b]
  rw [List.reverse_append, List.reverse_reverse, List.reverse_replicate]
  have := dropSp T [] h.ne h.hd a
  rw [List.append_nil] at this
  exact this
theorem takeHash {a r : Bs} (h : (35 : UInt8) ∉ a) : (a ++ 35 :: r).takeWhile (fun c => decide (c ≠ 35)) = a := (span_at (p := fun c : UInt8 => decide (c ≠ 35)) (a := a) (b := r) (c := 35) (fun x hx => by rw [ne_dec]; rintro rfl; exact h hx) (by simp)).1
theorem strip_plain {T : Bs} (h : TextOk T) : stripF T = T := by
  unfold stripF
  rw [(span_all (p := fun c : UInt8 => decide (c ≠ 35)) (a := T) fun x hx => by rw [ne_dec]; rintro rfl; exact h.n35 hx).1]
  have := trim_pad h 0 0
  simpa using this
def noisy (T : Bs) (c : UInt8) : Bs := [32, 32] ++ T ++ [32, 35, 32, 120] ++ [c]
theorem strip_noisy {T : Bs} (h : TextOk T) (c : UInt8) : stripF (noisy T c) = T := by
  have e : noisy T c = ([32, 32] ++ T ++ [32]) ++ 35 :: [32, 120, c] := by unfold noisy; simp
  unfold stripF
  rw [e, takeHash (by simp; exact h.n35)]
  exact trim_pad h 2 1
theorem step_text {i : In} (hr : rightB i = true) {s0 : Bs} (hs : stripF s0 = textI i) (n : Nat) (st : PSt) : stepF n st s0 = some ⟨st.l ++ [i], st.ls, st.js⟩ := by
  have h := text_ok hr
  unfold stepF
  rw [hs, if_neg h.ne, if_neg (fun e => h.n58 (List.mem_of_getLast? e)), lineP_iff.2 ⟨hr, rfl⟩]
theorem step_empty (n : Nat) (st : PSt) : stepF n st [] = some st := rfl
theorem run_list (f : In → List Bs) (hf : ∀ i, rightB i = true → ∀ n st, runF n st (f i) = .inl ⟨st.l ++ [i], st.ls, st.js⟩) : ∀ (l : List In), (∀ i ∈ l, rightB i = true) → ∀ n st, runF n st (l.flatMap f) = .inl ⟨st.l ++ l, st.ls, st.js⟩
  | [], _, n, st => by show Sum.inl st = _; simp
  | i :: l, h, n, st => by
    rw [List.flatMap_cons, runF_app, hf i (h i (List.mem_cons_self ..))]
    show runF _ _ _ = _
    rw [run_list f hf l (fun j hj => h j (List.mem_cons_of_mem _ hj))]
    simp
def textL (l : List In) : Bs := l.flatMap fun i => textI i ++ [10]
def noiseL (c : UInt8) (l : List In) : Bs := l.flatMap fun i => noisy (textI i) c ++ [10, 10]
theorem words_textL : ∀ (l : List In), (∀ i ∈ l, rightB i = true) → wordsF 10 (textL l) = (l.flatMap fun i => [textI i]) ++ [[]]
  | [], _ => rfl
  | i :: l, h => by
    have e : textL (i :: l) = textI i ++ 10 :: textL l := by unfold textL; rw [List.flatMap_cons]; simp
    rw [e, words_at (text_ok (h i (List.mem_cons_self ..))).n10, words_textL l fun j hj => h j (List.mem_cons_of_mem _ hj)]
    rfl
theorem words_noiseL {c : UInt8} (hc : c ≠ 10) : ∀ (l : List In), (∀ i ∈ l, rightB i = true) → wordsF 10 (noiseL c l) = (l.flatMap fun i => [noisy (textI i) c, []]) ++ [[]]
  | [], _ => rfl
  | i :: l, h => by
    have e : noiseL c (i :: l) = noisy (textI i) c ++ 10 :: ([] ++ 10 :: noiseL c l) := by unfold noiseL; rw [List.flatMap_cons]; simp
    have hn : (10 : UInt8) ∉ noisy (textI i) c := by
      have := (text_ok (h i (List.mem_cons_self ..))).n10
      unfold noisy
      simp
      exact ⟨this, fun e => hc e.symm⟩
    rw [e, words_at hn, words_at (by simp), words_noiseL hc l fun j hj => h j (List.mem_cons_of_mem _ hj)]
    rfl
theorem parse_of {s : Bs} {l : List In} (f : In → List Bs) (hf : ∀ i, rightB i = true → ∀ n st, runF n st (f i) = .inl ⟨st.l ++ [i], st.ls, st.js⟩) (hw : wordsF 10 s = l.flatMap f ++ [[]]) (hr : ∀ i ∈ l, rightB i = true) (hl : l.length ≤ 60) : parseF s = (l, 0, true) := by
  unfold parseF
  rw [hw, runF_app, run_list f hf l hr]
  show endF (runF _ _ _) = _
  rw [runF_cons, step_empty]
  show finF (linkF [] [] ([] ++ l)) = _
  rw [List.nil_append]
  exact if_neg (by omega)
theorem parse_textL {l : List In} (hr : ∀ i ∈ l, rightB i = true) (hl : l.length ≤ 60) : parseF (textL l) = (l, 0, true) :=
  parse_of (fun i => [textI i]) (fun i h n st => by rw [runF_cons, step_text h (strip_plain (text_ok h))]; rfl) (words_textL l hr) hr hl
theorem parse_noiseL {c : UInt8} (hc : c ≠ 10) {l : List In} (hr : ∀ i ∈ l, rightB i = true) (hl : l.length ≤ 60) : parseF (noiseL c l) = (l, 0, true) :=
  parse_of (fun i => [noisy (textI i) c, []]) (fun i h n st => by
    rw [runF_cons, step_text h (strip_noisy (text_ok h) c)]
    show runF _ _ _ = _
    rw [runF_cons, step_empty]
    rfl) (words_noiseL hc l hr) hr hl
end Go.Proofs.YtfidiiifcmmffaaGreatDoor
