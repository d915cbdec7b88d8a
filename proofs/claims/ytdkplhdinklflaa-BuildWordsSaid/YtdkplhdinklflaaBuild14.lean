/- Registers that are unlike. No condition. -/
import Derived.Test.YtdkplhdinklflaaBuild5
set_option linter.unusedVariables false
namespace Go.Proofs.Ytdkplhdinklflaa
open Go.RowKit Go.RR

def unlikeB (l : List Int) : Bool := decide l.Nodup && l.all ownB
theorem unlikeB_yes {l : List Int} (h1 : l.Nodup) (h2 : ∀ r ∈ l, ownB r = true) : unlikeB l = true := by
  unfold unlikeB
  rw [Bool.and_eq_true]
  exact ⟨by simpa using h1, by rw [List.all_eq_true]; exact h2⟩
theorem unlikeB_own {l : List Int} {r : Int} (h : r ∈ l) (h2 : ownB r = false) : unlikeB l = false := by
  unfold unlikeB
  have : l.all ownB = false := by rw [List.all_eq_false]; exact ⟨r, h, by simp [h2]⟩
  rw [this, Bool.and_false]
theorem unlikeB_twice {l : List Int} {m n : Nat} {r : Int} (h : m < n) (h1 : l[m]? = some r) (h2 : l[n]? = some r) : unlikeB l = false := by
  unfold unlikeB
  have : ¬ l.Nodup := by
    intro hd
    obtain ⟨a, ha⟩ := List.getElem?_eq_some_iff.1 h1
    obtain ⟨b, hb⟩ := List.getElem?_eq_some_iff.1 h2
    rw [List.nodup_iff_pairwise_ne, List.pairwise_iff_getElem] at hd
    exact hd m n a b h (by rw [ha, hb])
  simp [this]
theorem nodup_snoc {l : List Int} {r : Int} (h : l.Nodup) (hr : r ∉ l) : (l ++ [r]).Nodup := by
  rw [List.nodup_append]
  refine ⟨h, by simp, fun a ha b hb e => ?_⟩
  rw [List.mem_singleton] at hb
  subst hb
  subst e
  exact hr ha

set_option maxHeartbeats 2000000 in
set_option maxRecDepth 100000 in
theorem unlike_any (S : Nat → Prop) (v : Value) (l : List Int) (w : World) (hs : Sl w S 1 v l.length (l.map (Value.int .i64))) (hl : l.length ≤ 1000) : Calls Try.prog 74 #[v] w (RetW (.bool (unlikeB l)) fun w' => w = w') := by
  obtain ⟨-, p, cap, rfl, hc, hsp⟩ := hs
  have HSP := Lib.hid hsp
  clear hsp
  go_enter Try.func74, Try.ntmps74
  go_wp2_with fail
  go_loopg [9] l.length (fun g ix wr => ∃ n : Nat, n + g = l.length ∧ ix = .int .i64 n ∧ (l.take n).Nodup ∧ (∀ r ∈ l.take n, ownB r = true) ∧ wr = w)
  case atStart => exact ⟨0, by omega, rfl, by simp, by simp, rfl⟩
  case round =>
    obtain ⟨n, hn, rfl, hnd, hown, rfl⟩ := hrel
    have HN := Lib.hid hn
    have hnl : n ≤ l.length := by omega
    have HD := Lib.hid hnd
    have HO := Lib.hid hown
    clear hn hnd hown
    by_cases hlt : n < l.length
    · obtain ⟨r, hr⟩ : ∃ r, l[n]? = some r := ⟨l[n], by simp [hlt]⟩
      obtain ⟨g, of, rfl, -, hg, hcell⟩ := HSP.out (by omega)
      have x0 := hcell n (.int .i64 r) (by rw [List.getElem?_map, hr]; rfl)
      have n0 : (0 : Int) ≤ n := by omega
      have HC := Lib.hid hcell
      have HRR := Lib.hid hr
      clear hcell hr
      obtain ⟨wo, hwo⟩ : ∃ wo, wo = wr := ⟨_, rfl⟩
      subst hwo
      go_wp2_with fail
      go_loopg [18] n (fun g ix wr => ∃ m : Nat, m + g = n ∧ ix = .int .i64 m ∧ (∀ j, j < m → l[j]? ≠ some r) ∧ wr = wo)
      case atStart => exact ⟨0, by omega, rfl, fun j hj => by omega, rfl⟩
      case round =>
        obtain ⟨m, hm, rfl, hne, rfl⟩ := hrel
        have HM := Lib.hid hm
        have hml : m ≤ n := by omega
        have HNE := Lib.hid hne
        clear hm hne
        by_cases hmt : m < n
        · obtain ⟨q, hq⟩ : ∃ q, l[m]? = some q := ⟨l[m]'(by omega), by simp [show m < l.length by omega]⟩
          have y0 := HC.out m (.int .i64 q) (by rw [List.getElem?_map, hq]; rfl)
          have m0 : (0 : Int) ≤ m := by omega
          have HQ := Lib.hid hq
          have HMT := Lib.hid hmt
          clear hq
          by_cases he : q = r
          · have t0 : (q == r) = true := by simp [he]
            have HE := Lib.hid he
            clear he
            go_wp2_with fail
            go_ret
            exact ⟨ret_bool (unlikeB_twice HMT.out (by rw [← HE.out]; exact HQ.out) HRR.out).symm, rfl⟩
          · have t0 : (q == r) = false := by simp [he]
            have HE := Lib.hid he
            clear he
            go_wp2_with fail
            go_roundg (n - (m + 1))
            case measure => have := HM.out; omega
            case rel =>
              refine ⟨m + 1, by have := HM.out; omega, by go_num, fun j hj => ?_, rfl⟩
              rcases Nat.lt_succ_iff_lt_or_eq.1 hj with h | rfl
              · exact HNE.out j h
              · rw [HQ.out]; intro e; exact HE.out (Option.some.inj e)
        · obtain rfl : m = n := by omega
          have hmem : r ∈ l := List.mem_of_getElem? HRR.out
          have HMEM := Lib.hid hmem
          clear hmem
          by_cases h1 : r < 1
          · have t1 : decide (r < 1) = true := by simp; omega
            have H1 := Lib.hid h1
            clear h1
            go_wp2_with fail
            go_ret
            exact ⟨ret_bool (unlikeB_own HMEM.out (ownB_no (.inl H1.out))).symm, rfl⟩
          · have t1 : decide (r < 1) = false := by simp; omega
            by_cases h2 : 15 < r
            · have t2 : decide (15 < r) = true := by simp; omega
              have H1 := Lib.hid h2
              clear h1 h2
              go_wp2_with fail
              go_ret
              exact ⟨ret_bool (unlikeB_own HMEM.out (ownB_no (.inr H1.out))).symm, rfl⟩
            · have t2 : decide (15 < r) = false := by simp; omega
              have HY := Lib.hid (ownB_yes (n := r) (by omega) (by omega))
              clear h1 h2
              go_wp2_with fail
              go_roundg (l.length - (m + 1))
              case measure => have := HN.out; omega
              case rel =>
                refine ⟨m + 1, by have := HN.out; omega, by go_num, ?_, fun q hq => ?_, rfl⟩
                · rw [List.take_add_one, HRR.out]
                  refine nodup_snoc HD.out fun h => ?_
                  obtain ⟨j, hj, e⟩ := List.getElem_of_mem h
                  rw [List.getElem_take] at e
                  refine HNE.out j (by rw [List.length_take] at hj; omega) ?_
                  rw [← e]
                  exact List.getElem?_eq_getElem _
                · rw [List.take_add_one, HRR.out] at hq
                  rcases List.mem_append.1 hq with h | h
                  · exact HO.out q h
                  · simp at h; subst h; exact HY.out
    · obtain rfl : n = l.length := by omega
      go_wp2_with fail
      go_ret
      exact ⟨ret_bool (unlikeB_yes (by have := HD.out; rwa [List.take_length] at this) (by have := HO.out; rwa [List.take_length] at this)).symm, rfl⟩
end Go.Proofs.Ytdkplhdinklflaa
