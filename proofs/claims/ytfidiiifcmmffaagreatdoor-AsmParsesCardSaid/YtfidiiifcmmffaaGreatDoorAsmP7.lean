/- A program with two jumps to one label, parsed: plain. No condition. -/
import Derived.Test.YtfidiiifcmmffaaGreatDoorAsmP6
set_option linter.unusedVariables false
set_option linter.unusedSimpArgs false
namespace Go.Proofs.YtfidiiifcmmffaaGreatDoor
open Go.RowKit Go.RR
def afterF (n : Nat) (ys : List Bs) : PSt ⊕ Nat → PSt ⊕ Nat
  | .inl st => runF n st ys
  | .inr k => .inr k
theorem runF_cons (n : Nat) (st : PSt) (s : Bs) (r : List Bs) : runF n st (s :: r) = match stepF (n + 1) st s with | some st' => runF (n + 1) st' r | none => .inr (n + 1) := rfl
theorem runF_app : ∀ (xs ys : List Bs) (n : Nat) (st : PSt), runF n st (xs ++ ys) = afterF (n + xs.length) ys (runF n st xs)
  | [], ys, n, st => rfl
  | x :: xs, ys, n, st => by
    rw [List.cons_append, runF_cons, runF_cons]
    cases stepF (n + 1) st x with
    | none => rfl
    | some st' =>
      show runF (n + 1) st' (xs ++ ys) = afterF _ ys (runF (n + 1) st' xs)
      rw [runF_app xs ys (n + 1) st', List.length_cons]
      congr 1
      omega
def fenB : Bs := [102, 101, 110, 99, 101]
def beqB : Bs := [98, 101, 113, 32, 114, 49, 44, 32, 114, 50, 44, 32, 104, 101, 114, 101]
def hereB : Bs := [104, 101, 114, 101, 58]
def jalB : Bs := [106, 97, 108, 32, 114, 53, 44, 32, 104, 101, 114, 101]
def haltB : Bs := [104, 97, 108, 116]
def lbB : Bs := [104, 101, 114, 101]
def repF (k : Nat) : Bs := (List.replicate k (fenB ++ [10])).flatten
def labT (b a : Nat) : Bs := beqB ++ 10 :: (repF b ++ (hereB ++ 10 :: (repF a ++ (jalB ++ 10 :: haltB))))
theorem words_rep (r : Bs) : ∀ k, wordsF 10 (repF k ++ r) = List.replicate k fenB ++ wordsF 10 r
  | 0 => rfl
  | k + 1 => by
    have e : repF (k + 1) ++ r = fenB ++ 10 :: (repF k ++ r) := by
      unfold repF
      rw [List.replicate_succ, List.flatten_cons]
      simp
    rw [e, words_at (by decide), words_rep r k]
    rfl
theorem words_labT (b a : Nat) : wordsF 10 (labT b a) = beqB :: (List.replicate b fenB ++ (hereB :: (List.replicate a fenB ++ [jalB, haltB]))) := by
  unfold labT
  rw [words_at (by decide), words_rep, words_at (by decide), words_rep, words_at (by decide), words_no (by decide)]
def fenI : In := ⟨34, 0, 0, 0, 0⟩
theorem st_fen (n : Nat) (st : PSt) : stepF n st fenB = some ⟨st.l ++ [fenI], st.ls, st.js⟩ := by kernel_rfl
theorem st_beq (n : Nat) : stepF n ⟨[], [], []⟩ beqB = some ⟨[⟨15, 0, 1, 2, 0⟩], [], [(n, 0, lbB)]⟩ := by kernel_rfl
theorem st_here (n : Nat) (l : List In) (js : List (Nat × Nat × Bs)) : stepF n ⟨l, [], js⟩ hereB = some ⟨l, [(lbB, l.length)], js⟩ := by kernel_rfl
theorem st_jal (n : Nat) (st : PSt) : stepF n st jalB = some ⟨st.l ++ [⟨18, 5, 0, 0, 0⟩], st.ls, st.js ++ [(n, st.l.length, lbB)]⟩ := by kernel_rfl
theorem st_halt (n : Nat) (st : PSt) : stepF n st haltB = some ⟨st.l ++ [⟨0, 0, 0, 0, 0⟩], st.ls, st.js⟩ := by kernel_rfl
theorem run_fen : ∀ (k n : Nat) (st : PSt), runF n st (List.replicate k fenB) = .inl ⟨st.l ++ List.replicate k fenI, st.ls, st.js⟩
  | 0, n, st => by show Sum.inl st = _; simp
  | k + 1, n, st => by
    rw [List.replicate_succ, runF_cons, st_fen]
    show runF (n + 1) _ _ = _
    rw [run_fen k]
    simp [List.replicate_succ]
theorem lookL_one (k : Bs) (n : Nat) : lookL [(k, n)] k = some n := by unfold lookL; simp
def labI (b a : Nat) : List In := ⟨15, 0, 1, 2, (b : Int) + 1⟩ :: (List.replicate b fenI ++ (List.replicate a fenI ++ [⟨18, 5, 0, 0, -(a : Int)⟩, ⟨0, 0, 0, 0, 0⟩]))
theorem labels_parse (b a : Nat) (hb : b ≤ 255) (ha : a ≤ 255) : parseF (labT b a) = (labI b a, 0, true) := by
  unfold parseF
  rw [words_labT, runF_cons, st_beq]
  show endF (runF 1 _ _) = _
  rw [runF_app, run_fen]
  show endF (runF _ _ _) = _
  rw [runF_cons, st_here]
  show endF (runF _ _ _) = _
  rw [runF_app, run_fen]
  show endF (runF _ _ _) = _
  rw [runF_cons, st_jal]
  show endF (runF _ _ _) = _
  rw [runF_cons, st_halt]
  show finF (linkF _ _ _) = _
  have e1 : ∀ (ls : List (Bs × Nat)) (n k : Nat) (nm : Bs) (r : List (Nat × Nat × Bs)) (l : List In), linkF ls ((n, k, nm) :: r) l = match lookL ls nm with | none => .inr n | some q => if (q : Int) - k < -2048 ∨ 2048 ≤ (q : Int) - k then .inr n else linkF ls r (setIm l k (q - k)) := fun _ _ _ _ _ _ => rfl
  simp only [List.length_append, List.length_cons, List.length_nil, List.length_replicate, List.nil_append, List.cons_append]
  rw [e1, lookL_one]
  simp only
  rw [if_neg (by omega), e1, lookL_one]
  simp only
  rw [if_neg (by omega)]
  show finF (.inl _) = _
  have hm : ∀ (xs : List In) (i : In) (ys : List In) (k : Nat) (im : Int), k = xs.length → setIm (xs ++ i :: ys) k im = xs ++ { i with im := im } :: ys := by
    intro xs i ys k im hk
    subst hk
    induction xs with
    | nil => rfl
    | cons x xs ih => exact congrArg (x :: ·) ih
  have h1 : setIm ((⟨15, 0, 1, 2, 0⟩ : In) :: (List.replicate b fenI ++ List.replicate a fenI ++ [⟨18, 5, 0, 0, 0⟩] ++ [⟨0, 0, 0, 0, 0⟩])) 0 (((b + 1 : Nat) : Int) - (0 : Nat)) = ⟨15, 0, 1, 2, (b : Int) + 1⟩ :: (List.replicate b fenI ++ List.replicate a fenI ++ [⟨18, 5, 0, 0, 0⟩] ++ [⟨0, 0, 0, 0, 0⟩]) := by
    show (⟨15, 0, 1, 2, _⟩ : In) :: _ = _
    congr 2
  rw [h1]
  have h2 : (⟨15, 0, 1, 2, (b : Int) + 1⟩ : In) :: (List.replicate b fenI ++ List.replicate a fenI ++ [⟨18, 5, 0, 0, 0⟩] ++ [⟨0, 0, 0, 0, 0⟩]) = ((⟨15, 0, 1, 2, (b : Int) + 1⟩ : In) :: (List.replicate b fenI ++ List.replicate a fenI)) ++ ⟨18, 5, 0, 0, 0⟩ :: [⟨0, 0, 0, 0, 0⟩] := by simp
  rw [h2, hm _ _ _ _ _ (by simp)]
  have h3 : (⟨15, 0, 1, 2, (b : Int) + 1⟩ :: (List.replicate b fenI ++ List.replicate a fenI)) ++ ({ (⟨18, 5, 0, 0, 0⟩ : In) with im := ((b + 1 : Nat) : Int) - (b + a + 1 : Nat) }) :: [⟨0, 0, 0, 0, 0⟩] = labI b a := by
    unfold labI
    rw [show ((b + 1 : Nat) : Int) - (b + a + 1 : Nat) = -(a : Int) by omega]
    simp only [List.cons_append, List.append_assoc, List.nil_append]
  have h4 : (labI b a).length ≤ 16384 := by unfold labI; simp; omega
  rw [h3]
  exact if_neg (by omega)
theorem labI_len (b a : Nat) : (labI b a).length = b + a + 3 := by unfold labI; simp; omega
theorem labI_first (b a : Nat) : (labI b a)[0]? = some ⟨15, 0, 1, 2, (b : Int) + 1⟩ := rfl
theorem labI_jal (b a : Nat) : (labI b a)[b + a + 1]? = some ⟨18, 5, 0, 0, -(a : Int)⟩ := by
  unfold labI
  rw [List.getElem?_cons_succ, List.getElem?_append_right (by simp), List.getElem?_append_right (by simp)]
  simp
theorem labT_len (b a : Nat) (hb : b ≤ 255) (ha : a ≤ 255) : (labT b a).length ≤ 60000 := by
  have h : ∀ k, (repF k).length = 6 * k := by
    intro k
    unfold repF
    induction k with
    | zero => rfl
    | succ k ih => rw [List.replicate_succ, List.flatten_cons, List.length_append, ih]; simp [fenB]; omega
  unfold labT
  simp only [List.length_append, List.length_cons, h]
  simp [beqB, hereB, jalB, haltB]
  omega
end Go.Proofs.YtfidiiifcmmffaaGreatDoor
