/- The program's Parse is the plain reading of a text. No condition. -/
import Derived.Test.YtfidiiifcmmffaaGreatDoorAsm20
set_option linter.unusedVariables false
set_option linter.unusedSimpArgs false
namespace Go.Proofs.YtfidiiifcmmffaaGreatDoor
open Go.RowKit Go.RR
theorem stepF_ok {n : Nat} {st st' : PSt} {s : Bs} (h : stepF n st s = some st') (hok : JsOk st) (hn : 1 ≤ n ∧ n ≤ 100000) : JsOk st' ∧ st'.l.length ≤ st.l.length + 1 ∧ st'.js.length ≤ st.js.length + 1 := by
  unfold stepF at h
  obtain ⟨h1, h2⟩ := hok
  split at h
  · cases h; exact ⟨⟨h1, h2⟩, by omega, by omega⟩
  · split at h
    · split at h
      · cases h
      · cases h
        refine ⟨⟨h1, fun p hp => ?_⟩, by simp, by simp⟩
        rcases List.mem_append.1 hp with hp | hp
        · exact h2 p hp
        · rw [List.mem_singleton] at hp
          rw [hp]; exact Nat.le_refl _
    · split at h
      · cases h
        refine ⟨⟨fun j hj => ?_, fun p hp => ?_⟩, by simp, by simp⟩
        · have := h1 j hj; simp; omega
        · have := h2 p hp; simp; omega
      · split at h
        · cases h
          refine ⟨⟨fun j hj => ?_, fun p hp => ?_⟩, by simp, by simp⟩
          · rcases List.mem_append.1 hj with hj | hj
            · have := h1 j hj; simp; omega
            · rw [List.mem_singleton] at hj
              rw [hj]; simp; omega
          · have := h2 p hp; simp; omega
        · cases h
/-- A slice of instructions, handed over: nil, or a block that holds them. -/
def InsV (w : World) (v : Value) (l : List In) : Prop := ∃ S, Sl w S 5 v l.length (iC l)
def Parsed (s : Bs) (w : World) (v : Value) (w' : World) : Prop := Chg NoB w w' ∧ ∃ lv, v = .tuple #[lv, .int .i64 (parseF s).2.1, .int .i64 (if (parseF s).2.2 = true then 0 else 210)] ∧ InsV w' lv (parseF s).1
theorem words_le (c : UInt8) (s : Bs) : (wordsF c s).length ≤ s.length + 1 ∧ ∀ p ∈ wordsF c s, p.length ≤ s.length := by
  induction s with
  | nil => exact ⟨by show (1 : Nat) ≤ 1; omega, fun p hp => by rw [show wordsF c [] = [[]] from rfl, List.mem_singleton] at hp; rw [hp]; exact Nat.le_refl _⟩
  | cons b s ih =>
    obtain ⟨ih1, ih2⟩ := ih
    obtain ⟨x, xs, e⟩ := words_ne c s
    by_cases h : b = c
    · have e2 : wordsF c (b :: s) = [] :: wordsF c s := by conv => lhs; unfold wordsF
                                                           rw [if_pos h]
      rw [e2]
      refine ⟨by simp only [List.length_cons]; omega, fun p hp => ?_⟩
      rcases List.mem_cons.1 hp with rfl | hp
      · simp
      · have := ih2 p hp; simp only [List.length_cons]; omega
    · have e2 : wordsF c (b :: s) = (b :: x) :: xs := by conv => lhs; unfold wordsF
                                                         rw [if_neg h, e]
      rw [e] at ih1 ih2
      rw [e2]
      refine ⟨by simp only [List.length_cons] at ih1 ⊢; omega, fun p hp => ?_⟩
      rcases List.mem_cons.1 hp with rfl | hp
      · have := ih2 x (List.mem_cons_self ..); simp only [List.length_cons]; omega
      · have := ih2 p (List.mem_cons_of_mem _ hp); simp only [List.length_cons]; omega
set_option maxHeartbeats 8000000 in
set_option maxRecDepth 100000 in
theorem parse_any (s : Bs) (w : World) (hs : s.length ≤ 60000) (L : Lb w) : Calls Tryz.prog 16 #[.string ⟨s.toArray⟩] w (RetV fun v w' => Parsed s w v w') := by
  have HL := Lib.hid L
  obtain ⟨Ls, hLs⟩ : ∃ Ls, wordsF 10 s = Ls := ⟨_, rfl⟩
  have hwl := words_le 10 s
  rw [hLs] at hwl
  have H0 := Lib.hid fun w' (L' : Lb w') => split_gen [10] s Ls (by decide) (by rw [← hLs]; exact split_words s) w' (by omega) L'
  have HP : Hid (parseF s = endF (runF 0 ⟨[], [], []⟩ Ls)) := Lib.hid (by unfold parseF; rw [hLs])
  have HWL := Lib.hid hwl.2
  obtain ⟨nl, hnl⟩ : ∃ nl, Ls.length = nl := ⟨_, rfl⟩
  have hnb : nl ≤ 60001 := by omega
  rw [hnl] at H0
  have HNL := Lib.hid hnl
  clear L hLs hwl hnl
  go_enter Tryz.func16, Tryz.ntmps16
  have hmk : ∀ w, (Instr.makeMap 68 none).run Tryz.prog w = .ok (.map (some w.heap.size)) (w.alloc (.map #[] 0)) := fun _ => rfl
  have HCa : Hid (Chg NoB w ((w.alloc (.map #[] 0)).alloc (.cells #[.slice none 0 0, .map (some w.heap.size), .slice none 0 0] 71))) := Lib.hid (((Chg.refl NoB w).alloc _).alloc _)
  have H0' := H0.out ((w.alloc (.map #[] 0)).alloc (.cells #[.slice none 0 0, .map (some w.heap.size), .slice none 0 0] 71)) (HL.out.chg0 HCa.out)
  have hgs : ((w.alloc (.map #[] 0)).alloc (.cells #[.slice none 0 0, .map (some w.heap.size), .slice none 0 0] 71)).heap.size = w.heap.size + 2 := by simp
  obtain ⟨gs, hg⟩ : ∃ gs, w.heap.size + 2 = gs := ⟨_, rfl⟩
  rw [hgs, hg] at H0'
  have HGS := Lib.hid hg
  have H1 := Lib.hid H0'
  clear H0' hgs hg
  go_wp2_with fail
  refine H1.out.mono ?_
  rintro e w1 ⟨rfl, C1, hg1, hcell⟩
  have HX0 : Hid (RdS (· = gs) w1 w.heap.size (w.heap.size + 1) ⟨[], [], []⟩) := Lib.hid (by
    have hG := HGS.out
    refine ⟨fun k => if k = w.heap.size then 1 else if k = gs then 9 else 0, .slice none 0 0, w.heap.size, .slice none 0 0, C1.blk0 ?_, ⟨?_, by omega⟩, ⟨?_, Nat.le_refl _⟩, ?_, Own.nil .., Own.nil .., ?_⟩
    · have := Blk.new (w.alloc (.map #[] 0)) #[.slice none 0 0, .map (some w.heap.size), .slice none 0 0] 71
      rw [show (w.alloc (.map #[] 0)).heap.size = w.heap.size + 1 by simp] at this
      exact this
    · show (if w.heap.size + 1 = w.heap.size then 1 else if w.heap.size + 1 = gs then 9 else 0) = 0
      rw [if_neg (by omega), if_neg (by omega)]
    · show (if w.heap.size = w.heap.size then 1 else if w.heap.size = gs then 9 else 0) = 1
      rw [if_pos rfl]
    · exact ((SMapAt.new w).chg ((Chg.refl NoB _).alloc _) id).chg C1 id
    · rintro k rfl
      refine ⟨?_, hg1⟩
      show (if k = w.heap.size then 1 else if k = k then 9 else 0) = 9
      rw [if_neg (by omega), if_pos rfl])
  have HC1 := Lib.hid (HCa.out.step C1)
  have HX := Lib.hid hcell
  have HG1 := Lib.hid hg1
  clear C1 hg1 hcell hmk H0
  go_wp2_with fail
  go_loopg [18] nl (fun g ix wr => ∃ (k : Nat) (st : PSt), k + g = nl ∧ ix = .int .i64 k ∧ runF 0 ⟨[], [], []⟩ Ls = runF k st (Ls.drop k) ∧ JsOk st ∧ st.l.length ≤ k ∧ st.js.length ≤ k ∧ RdS (· = gs) wr w.heap.size (w.heap.size + 1) st ∧ Chg (FS w.heap.size (· = gs)) w1 wr)
  case atStart => exact ⟨0, ⟨[], [], []⟩, Nat.zero_add _, rfl, rfl, ⟨fun j h => (by cases h), fun p h => (by cases h)⟩, Nat.le_refl _, Nat.le_refl _, HX0.out, Chg.refl _ _⟩
  case round =>
    obtain ⟨k, st, hk, rfl, hrun, hok, hl, hj, hR, hC⟩ := hrel
    rename World => wr
    have HK := Lib.hid hk
    have HRUN := Lib.hid hrun
    have HOK := Lib.hid hok
    have HRD := Lib.hid hR
    have HCK := Lib.hid hC
    have HLN := Lib.hid hl
    have HJN := Lib.hid hj
    have hkn : k ≤ nl := by omega
    have HCW : Hid (Chg NoB w wr) := Lib.hid (HC1.out.trans hC fun k h1 h2 => by have := h2.1; omega)
    clear hk hrun hok hl hj hR hC
    by_cases hlt : k < nl
    · obtain ⟨p, hp⟩ : ∃ p, Ls[k]? = some p := ⟨_, List.getElem?_eq_getElem (by rw [HNL.out]; exact hlt)⟩
      have x0 : wr.cell? ⟨gs, k, none⟩ = some (.string ⟨p.toArray⟩) := HCK.out.cell (HX.out k p hp) (fun h => h.2 rfl)
      have HPL := Lib.hid (HWL.out p (List.mem_of_getElem? hp))
      have hdr : runF 0 ⟨[], [], []⟩ Ls = runF k st (p :: Ls.drop (k + 1)) := by
        rw [HRUN.out, List.drop_eq_getElem_cons (by rw [HNL.out]; exact hlt)]
        have : Ls[k]'(by rw [HNL.out]; exact hlt) = p := by
          have := List.getElem?_eq_getElem (l := Ls) (i := k) (by rw [HNL.out]; exact hlt)
          rw [this] at hp
          exact Option.some.inj hp
        rw [this]
      have HDR := Lib.hid hdr
      have hrd := rdline_any p (k + 1) w.heap.size (w.heap.size + 1) st wr (by have := HPL.out; omega) (by omega) (by have := HLN.out; omega) (by have := HJN.out; omega) (HL.out.chg0 HCW.out) HRD.out
      rw [show ((k + 1 : Nat) : Int) = (k : Int) + 1 by omega] at hrd
      have HRL := Lib.hid hrd
      have k0 : (0 : Int) ≤ k := by omega
      have k1 : (k : Int) < nl := by omega
      clear hp hdr hrd
      go_wp2_with fail
      refine HRL.out.mono ?_
      rintro e w2 ⟨v2, rfl, hv2, C2, hst⟩
      subst hv2
      have HC2 := Lib.hid C2
      have HST := Lib.hid hst
      obtain ⟨o, ho⟩ : ∃ o, stepF (k + 1) st p = o := ⟨_, rfl⟩
      have HO := Lib.hid ho
      rw [ho] at HST ⊢
      clear C2 hst ho
      cases o with
      | none =>
        have HF : Hid (parseF s = ([], k + 1, false)) := Lib.hid (by
          rw [HP.out, HDR.out]
          have : runF k st (p :: Ls.drop (k + 1)) = .inr (k + 1) := by conv => lhs; unfold runF
                                                                       rw [HO.out]
          rw [this]; rfl)
        simp only [Option.isSome_none]
        go_wp2_with fail
        go_ret3
        refine ⟨_, rfl, HCW.out.trans HC2.out (fun k h1 h2 => by have := h2.1; omega), .slice none 0 0, ?_, ?_⟩
        · rw [HF.out]; rfl
        · rw [HF.out]; exact ⟨fun _ => True, Sl.nil ..⟩
      | some st' =>
        have HF : Hid (runF 0 ⟨[], [], []⟩ Ls = runF (k + 1) st' (Ls.drop (k + 1))) := Lib.hid (by
          rw [HDR.out]
          conv => lhs; unfold runF
          rw [HO.out])
        simp only [Option.isSome_some]
        go_wp2_with fail
        go_roundg (nl - (k + 1))
        case measure => have := HK.out; omega
        case rel =>
          obtain ⟨q1, q2, q3⟩ := stepF_ok HO.out HOK.out ⟨by omega, by omega⟩
          exact ⟨k + 1, st', by have := HK.out; omega, by go_num, HF.out, q1, by have := HLN.out; omega, by have := HJN.out; omega, HST.out st' rfl, HCK.out.step HC2.out⟩
    · obtain rfl : nl = k := by omega
      have HF : Hid (parseF s = finF (linkF st.ls st.js st.l)) := Lib.hid (by
        rw [HP.out, HRUN.out, List.drop_eq_nil_of_le (by rw [HNL.out]; exact Nat.le_refl _)]
        rfl)
      go_wp2_with fail
      refine (link_any w.heap.size (w.heap.size + 1) st wr (by have := HLN.out; omega) (by have := HJN.out; omega) HOK.out HRD.out).mono ?_
      rintro e w2 ⟨v2, rfl, C2, h2⟩
      have HC2 := Lib.hid (HCW.out.trans C2 (fun k h1 h2 => by have := h2.1; omega))
      clear C2
      obtain ⟨o, ho⟩ : ∃ o, linkF st.ls st.js st.l = o := ⟨_, rfl⟩
      rw [ho] at h2 HF
      clear ho
      cases o with
      | inr n =>
        obtain ⟨rfl, h1n, h2n⟩ := h2
        have HF2 : Hid (parseF s = ([], n, false)) := Lib.hid HF.out
        have n0 : (0 : Int) < n := by omega
        go_wp2_with fail
        go_ret3
        refine ⟨_, rfl, HC2.out, .slice none 0 0, ?_, ?_⟩
        · rw [HF2.out]; rfl
        · rw [HF2.out]; exact ⟨fun _ => True, Sl.nil ..⟩
      | inl l =>
        obtain ⟨rfl, hll, t, lv, mb, jv, hX2⟩ := h2
        obtain ⟨lp, lc, hlv⟩ := Own.slice hX2.2.2.2.2.1
        subst hlv
        have b0 := hX2.1.cell' (i := 0) (v := .slice lp l.length lc) rfl
        have HSL := Lib.hid hX2.2.2.2.2.1.sl
        have HLL : Hid (l.length ≤ 60001) := Lib.hid (by have := HLN.out; omega)
        clear hX2 hll
        by_cases h16 : 16384 < l.length
        · have HF2 : Hid (parseF s = ([], 0, false)) := Lib.hid (by rw [HF.out]; exact if_pos h16)
          have n0 : decide ((16384 : Int) < l.length) = true := decide_eq_true (by omega)
          clear h16
          go_wp2_with fail
          go_ret3
          refine ⟨_, rfl, HC2.out, .slice none 0 0, ?_, ?_⟩
          · rw [HF2.out]; rfl
          · rw [HF2.out]; exact ⟨fun _ => True, Sl.nil ..⟩
        · have HF2 : Hid (parseF s = (l, 0, true)) := Lib.hid (by rw [HF.out]; exact if_neg h16)
          have n0 : decide ((16384 : Int) < l.length) = false := decide_eq_false (by omega)
          clear h16
          go_wp2_with fail
          go_ret3
          refine ⟨_, rfl, HC2.out, .slice lp l.length lc, ?_, ?_⟩
          · rw [HF2.out]; rfl
          · rw [HF2.out]; exact ⟨_, HSL.out⟩
end Go.Proofs.YtfidiiifcmmffaaGreatDoor
