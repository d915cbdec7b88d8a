/- AsmTexts returns true, whatever it is given. No condition. -/
import Derived.Test.YtfidiiifcmmffaaGreatDoorAsm26
import Derived.Test.YtfidiiifcmmffaaGreatDoorAsm23
import Derived.Laws.BytesArg
import Derived.Test.YtfidiiifcmmffaaGreatDoorBranch
set_option linter.unusedVariables false
set_option linter.unusedSimpArgs false
namespace Go.Proofs.YtfidiiifcmmffaaGreatDoor
open Go.RowKit Go.RR
theorem noiseL_snoc (c : UInt8) (l : List In) (i : In) : noiseL c (l ++ [i]) = noiseL c l ++ (noisy (textI i) c ++ [10, 10]) := by unfold noiseL; rw [List.flatMap_append]; simp
theorem textI_le {i : In} (h : i64I i) (hr : rightB i = true) : (textI i).length ≤ 160 := by
  have := text_len h
  unfold printI at this
  rwa [if_pos hr] at this
theorem noiseL_len (c : UInt8) : ∀ (l : List In), (∀ i ∈ l, (textI i).length ≤ 160) → (noiseL c l).length ≤ 170 * l.length
  | [], _ => by simp [noiseL]
  | i :: l, h => by
    have ih := noiseL_len c l fun j hj => h j (List.mem_cons_of_mem _ hj)
    have h1 := h i (List.mem_cons_self ..)
    have e : noiseL c (i :: l) = noisy (textI i) c ++ [10, 10] ++ noiseL c l := by unfold noiseL; rw [List.flatMap_cons]
    rw [e]
    unfold noisy
    simp only [List.length_append, List.length_cons, List.length_nil]
    omega
theorem textL_len : ∀ (l : List In), (∀ i ∈ l, (textI i).length ≤ 160) → (textL l).length ≤ 161 * l.length
  | [], _ => by simp [textL]
  | i :: l, h => by
    have ih := textL_len l fun j hj => h j (List.mem_cons_of_mem _ hj)
    have h1 := h i (List.mem_cons_self ..)
    have e : textL (i :: l) = textI i ++ [10] ++ textL l := by unfold textL; rw [List.flatMap_cons]
    rw [e]
    simp only [List.length_append, List.length_cons, List.length_nil]
    omega
set_option maxHeartbeats 8000000 in
set_option maxRecDepth 100000 in
theorem asmTexts_any (S : Nat → Prop) (v : Value) (l : List In) (c : Nat) (w : World) (hs : Sl w S 5 v l.length (iC l)) (hl : l.length ≤ 9223372036854775807) (hi : ∀ i ∈ l, i64I i) (hc : c ≤ 255) (L : Lb w) : Calls Tryz.prog 7 #[v, .int .u8 c] w (RetW (.bool true) fun w' => Chg NoB w w') := by
  have HL := Lib.hid L
  have c0 : (0 : Int) ≤ c := by omega
  have c1 : (c : Int) ≤ 255 := by omega
  obtain ⟨p, cap, rfl⟩ := hs.form
  by_cases hbig : 60 < l.length
  · have t0 : decide ((60 : Int) < l.length) = true := decide_eq_true (by omega)
    clear L hs hi hbig
    have l0 : (l.length : Int) ≤ 9223372036854775807 := by omega
    go_enter Tryz.func7, Tryz.ntmps7
    go_wp2_with fail
    refine (first21_any _ HL.out).mono ?_
    rintro e w1 ⟨rfl, C1⟩
    have HC1 := Lib.hid C1
    clear C1
    go_wp2_with fail
    go_ret
    exact ⟨rfl, HC1.out⟩
  · have t0 : decide ((60 : Int) < l.length) = false := decide_eq_false (by omega)
    have hl60 : l.length ≤ 60 := by omega
    obtain ⟨_, _, e', hI⟩ := InsAt.of hs (by omega)
    cases e'
    have HI := Lib.hid hI
    have HA := Lib.hid hi
    have HSl := Lib.hid hs
    obtain ⟨n, hn⟩ : ∃ n, l.length = n := ⟨_, rfl⟩
    rw [hn] at hl60 t0 HSl ⊢
    have HN := Lib.hid hn
    clear L hs hi hbig hl hI hn
    go_enter Tryz.func7, Tryz.ntmps7
    go_wp2_with fail
    refine (first21_any _ HL.out).mono ?_
    rintro e w1 ⟨rfl, C1⟩
    have HC1 := Lib.hid C1
    have HTX : Hid (Calls Tryz.prog _ #[.slice p n cap] w1 (RetW (.string ⟨(textP l).toArray⟩) fun w' => Chg NoB w1 w')) := Lib.hid (text_any S (.slice p n cap) l w1 (by have := HSl.out.chg0 C1; rw [HN.out]; exact this) (by have := HN.out; omega) HA.out (HL.out.chg0 C1))
    clear C1
    go_wp2_with fail
    refine HTX.out.mono ?_
    rintro e w2 ⟨rfl, C2⟩
    have HC2 := Lib.hid (HC1.out.step C2)
    clear C2
    go_wp2_with fail
    go_loopg [26] n (fun g ix wr => ∃ k : Nat, k + g = n ∧ ix = .int .i64 k ∧ (l.take k).all rightB = true ∧ Chg NoB w wr)
    case atStart => exact ⟨0, Nat.zero_add _, rfl, rfl, HC2.out⟩
    case round =>
      obtain ⟨k, hk, rfl, hr, hC⟩ := hrel
      rename World => wr
      have HK := Lib.hid hk
      have HR := Lib.hid hr
      have HC := Lib.hid hC
      have hkn : k ≤ n := by omega
      clear hk hr hC
      by_cases hlt : k < n
      · obtain ⟨i, hik⟩ : ∃ i, l[k]? = some i := ⟨_, List.getElem?_eq_getElem (by rw [HN.out]; exact hlt)⟩
        obtain ⟨g, of, rfl, hg, x0, x1, x2, x3, x4⟩ := (HI.out.chg0 HC.out).at hik
        have hcap := HI.out.cap
        rw [HN.out] at hcap
        have k0 : (0 : Int) ≤ k := by omega
        have k1 : (k : Int) < n := by omega
        have HIK := Lib.hid hik
        have HC1 : Hid (Chg NoB w (wr.alloc (.cells (ic i) 24))) := Lib.hid (HC.out.alloc _)
        clear hik
        go_wp2_with fail
        refine (rright_any i _).mono ?_
        rintro e w3 ⟨rfl, C3⟩
        have HC3 := Lib.hid (HC1.out.step C3)
        obtain ⟨rb, hrb⟩ : ∃ rb, rightB i = rb := ⟨_, rfl⟩
        rw [hrb]
        have HRB := Lib.hid hrb
        clear C3 hrb
        cases rb
        · have hF : textP l = [] := by
            unfold textP
            rw [if_neg (fun h => by have := List.all_eq_true.1 h i (List.mem_of_getElem? HIK.out); rw [HRB.out] at this; cases this)]
          rw [hF]
          clear hF
          go_wp2_with fail
          go_ret
          exact ⟨rfl, HC3.out⟩
        · go_wp2_with fail
          go_roundg (n - (k + 1))
          case measure => have := HK.out; omega
          case rel => exact ⟨k + 1, by have := HK.out; omega, by go_num, by rw [take_snoc' HIK.out, List.all_append, HR.out]; simp [HRB.out], HC3.out⟩
      · obtain rfl : n = k := by omega
        have HAR : Hid (∀ i ∈ l, rightB i = true) := Lib.hid (by
          have h := HR.out
          rw [List.take_of_length_le (by rw [HN.out]; exact Nat.le_refl _)] at h
          exact List.all_eq_true.1 h)
        have hF : textP l = textL l := by unfold textP; rw [if_pos (List.all_eq_true.2 HAR.out)]
        rw [hF]
        clear hF
        go_wp2_with fail
        have HCW := HC
        obtain ⟨ch, hch⟩ : ∃ ch, UInt8.ofNat (97 + c % 26) = ch := ⟨_, rfl⟩
        have HCH := Lib.hid hch
        clear HR HK HC hch
        go_loopg [38, 8] n (fun g ix tv wr => ∃ k : Nat, k + g = n ∧ ix = .int .i64 k ∧ tv = .string ⟨(noiseL ch (l.take k)).toArray⟩ ∧ Chg NoB w wr)
        case atStart => exact ⟨0, Nat.zero_add _, rfl, rfl, HCW.out⟩
        case round =>
          obtain ⟨k, hk, rfl, rfl, hC⟩ := hrel
          rename World => wr2
          have HK := Lib.hid hk
          have HC := Lib.hid hC
          have hkn2 : k ≤ n := by omega
          clear hk hC
          by_cases hlt2 : k < n
          · obtain ⟨i, hik⟩ : ∃ i, l[k]? = some i := ⟨_, List.getElem?_eq_getElem (by rw [HN.out]; exact hlt2)⟩
            obtain ⟨g, of, rfl, hg, x0, x1, x2, x3, x4⟩ := (HI.out.chg0 HC.out).at hik
            have hcap := HI.out.cap
            rw [HN.out] at hcap
            have k0 : (0 : Int) ≤ k := by omega
            have k1 : (k : Int) < n := by omega
            have HIK := Lib.hid hik
            clear hik
            have HC1 : Hid (Chg NoB w (wr2.alloc (.cells #[.int .i64 i.op, .int .i64 i.rd, .int .i64 i.rs, .int .i64 i.rt, .int .i64 i.im] 24)).drew) := Lib.hid (HC.out.alloc _).drew
            have HBi := Lib.hid (Blk.new wr2 (ic i) 24)
            have HPR : Hid (∀ w' : World, Chg NoB w w' → Calls Tryz.prog 9 #[.agg #[.int .i64 i.op, .int .i64 i.rd, .int .i64 i.rs, .int .i64 i.rt, .int .i64 i.im]] w' (RetW (.string ⟨(printI i).toArray⟩) fun w'' => Chg NoB w' w'')) := Lib.hid fun w' c' => print_any i w' (HA.out i (List.mem_of_getElem? HIK.out)) (HL.out.chg0 c')
            have z0 := HBi.out.drew.cell' (i := 0) (v := .int .i64 i.op) rfl
            have z1 := HBi.out.drew.cell' (i := 1) (v := .int .i64 i.rd) rfl
            have z2 := HBi.out.drew.cell' (i := 2) (v := .int .i64 i.rs) rfl
            have z3 := HBi.out.drew.cell' (i := 3) (v := .int .i64 i.rt) rfl
            have z4 := HBi.out.drew.cell' (i := 4) (v := .int .i64 i.im) rfl
            have cX := HC1.out
            obtain ⟨T, hT⟩ : ∃ T, printI i = T := ⟨_, rfl⟩
            have hTl : T.length ≤ 160 := by rw [← hT]; exact text_len (HA.out i (List.mem_of_getElem? HIK.out))
            rw [hT] at HPR
            have HT := Lib.hid hT
            obtain ⟨U, hU⟩ : ∃ U, noiseL ch (l.take k) = U := ⟨_, rfl⟩
            rw [hU]
            have HU := Lib.hid hU
            have hUl : U.length ≤ 1000000 := by
              rw [← hU]
              have h1 := noiseL_len ch (l.take k) fun j hj => textI_le (HA.out j (List.mem_of_mem_take hj)) (HAR.out j (List.mem_of_mem_take hj))
              rw [List.length_take] at h1
              omega
            obtain ⟨q, hq⟩ : ∃ q, 97 + c % 26 = q := ⟨_, rfl⟩
            have hwr : IntKind.u8.wrap (97 + (c : Int).tmod 26) = (q : Int) := by
              rw [show (c : Int).tmod 26 = ((c % 26 : Nat) : Int) by rw [Int.tmod_eq_emod_of_nonneg (by omega)]; omega, show (97 : Int) + ((c % 26 : Nat) : Int) = (q : Int) by omega]
              exact IntWalk.u8_in _ ⟨by omega, by omega⟩
            have hconv : ∀ (w' : World) (b : Nat), w'.cell? ⟨b, 0, none⟩ = some (.int .u8 q) → (convert 45 9 (.slice (some ⟨b, 0, none⟩) 1 1)).run Tryz.prog w' = .ok (.string ⟨#[UInt8.ofNat q]⟩) w' := fun w' b hb => by
              have := run_convert_bytes_arg (P := Tryz.prog) w' 45 5 rfl rfl b 0 1 1 [(q : Int)] rfl (fun j hj => by
                obtain rfl : j = 0 := by omega
                exact hb) 9 rfl
              rw [this]
              rfl
            have l1 : ¬ 9223372036854775807 < 2 + T.length := by omega
            have l2 : ¬ 9223372036854775807 < 2 + T.length + 4 := by omega
            have l3 : ¬ 9223372036854775807 < 2 + T.length + 4 + 1 := by omega
            have l4 : ¬ 9223372036854775807 < 2 + T.length + 4 + 1 + 2 := by omega
            have l5 : ¬ 9223372036854775807 < U.length + (2 + T.length + 4 + 1 + 2) := by omega
            have HNX : Hid ((⟨U.toArray⟩ : ByteArray) ++ (⟨#[32, 32]⟩ ++ ⟨T.toArray⟩ ++ ⟨#[32, 35, 32, 120]⟩ ++ ⟨#[UInt8.ofNat q]⟩ ++ ⟨#[10, 10]⟩) = ⟨(noiseL ch (l.take (k + 1))).toArray⟩) := Lib.hid (by
              have hri := HAR.out i (List.mem_of_getElem? HIK.out)
              have hpt : T = textI i := by rw [← HT.out]; unfold printI; rw [if_pos hri]
              rw [take_snoc' HIK.out, noiseL_snoc, HU.out, hpt, ← HCH.out, hq, show (⟨#[32, 32]⟩ : ByteArray) = ⟨([32, 32] : Bs).toArray⟩ from rfl, show (⟨#[32, 35, 32, 120]⟩ : ByteArray) = ⟨([32, 35, 32, 120] : Bs).toArray⟩ from rfl, show (⟨#[UInt8.ofNat q]⟩ : ByteArray) = ⟨([UInt8.ofNat q] : Bs).toArray⟩ from rfl, show (⟨#[10, 10]⟩ : ByteArray) = ⟨([10, 10] : Bs).toArray⟩ from rfl, bs_append, bs_append, bs_append, bs_append, bs_append]
              rfl)
            have hz0 : ((wr2.alloc (.cells #[.int .i64 i.op, .int .i64 i.rd, .int .i64 i.rs, .int .i64 i.rt, .int .i64 i.im] 24)).drew).heap.size = wr2.heap.size + 1 := by simp
            have HSS : Hid (∀ w' : World, Chg NoB ((wr2.alloc (.cells #[.int .i64 i.op, .int .i64 i.rd, .int .i64 i.rs, .int .i64 i.rt, .int .i64 i.im] 24)).drew) w' → (w'.cell? ⟨wr2.heap.size, 0, none⟩ = some (.int .i64 i.op) ∧ w'.cell? ⟨wr2.heap.size, 1, none⟩ = some (.int .i64 i.rd) ∧ w'.cell? ⟨wr2.heap.size, 2, none⟩ = some (.int .i64 i.rs) ∧ w'.cell? ⟨wr2.heap.size, 3, none⟩ = some (.int .i64 i.rt) ∧ w'.cell? ⟨wr2.heap.size, 4, none⟩ = some (.int .i64 i.im))) := Lib.hid fun w' c' => ⟨c'.cell z0 id, c'.cell z1 id, c'.cell z2 id, c'.cell z3 id, c'.cell z4 id⟩
            go_wp2_with fail
            refine wp_region_all 12 7 [0, 1, 5, 6, 7] (fun w' => w'.cell? ⟨wr2.heap.size, 0, none⟩ = some (.int .i64 i.op) ∧ w'.cell? ⟨wr2.heap.size, 1, none⟩ = some (.int .i64 i.rd) ∧ w'.cell? ⟨wr2.heap.size, 2, none⟩ = some (.int .i64 i.rs) ∧ w'.cell? ⟨wr2.heap.size, 3, none⟩ = some (.int .i64 i.rt) ∧ w'.cell? ⟨wr2.heap.size, 4, none⟩ = some (.int .i64 i.im)) (by kernel_rfl) (by kernel_rfl) (fun _ _ _ _ _ h => h) (⟨z0, z1, z2, z3, z4⟩) ?_
            simp only [pickOps_nil, pickOps_cons, Option.getD_some, List.getElem?_toArray, List.getElem?_cons_zero, List.getElem?_cons_succ, List.cons_append, List.nil_append, List.drop_succ_cons, List.drop_zero]
            repeat
              refine wpTake_cons' rfl ?_
              apply Exists.intro
              refine ⟨fun wS hS => ?_, ?_⟩
              · try dsimp only at hS
                obtain ⟨z0, z1, z2, z3, z4⟩ := hS
                go_simp
                try rfl
              simp only [Act.put, List.setIfInBounds_toArray, List.set_cons_zero, List.set_cons_succ]
            refine wpTake_nil ?_
            have C00 : Chg NoB ((wr2.alloc (.cells #[.int .i64 i.op, .int .i64 i.rd, .int .i64 i.rs, .int .i64 i.rt, .int .i64 i.im] 24)).drew) ((wr2.alloc (.cells #[.int .i64 i.op, .int .i64 i.rd, .int .i64 i.rs, .int .i64 i.rt, .int .i64 i.im] 24)).drew) := Chg.refl NoB _
            refine wpAll_cons [2, 8] (by kernel_rfl) ?_
            intro i' hi'
            simp only [List.mem_cons, List.not_mem_nil, or_false] at hi'
            rcases hi' with rfl | rfl
            ·
              refine ⟨_, rfl, rfl, fun K hK => ?_⟩
              go_simp
              refine (HPR.out _ (cX.step C00)).mono ?_
              rintro e wa1 ⟨rfl, Ca1⟩
              have C1 := (C00).step Ca1
              refine hK _ _ (HSS.out _ C1) ?_
              clear hK K Ca1
              try simp only [Act.put, List.setIfInBounds_toArray, List.set_cons_zero, List.set_cons_succ]
              refine wpAll_cons [3, 8] (by kernel_rfl) ?_
              intro i' hi'
              simp only [List.mem_cons, List.not_mem_nil, or_false] at hi'
              rcases hi' with rfl | rfl
              ·
                refine ⟨_, rfl, rfl, fun K hK => ?_⟩
                go_simp
                refine hK _ _ (HSS.out _ C1) ?_
                clear hK K
                refine wpAll_cons [4, 8] (by kernel_rfl) ?_
                intro i' hi'
                simp only [List.mem_cons, List.not_mem_nil, or_false] at hi'
                rcases hi' with rfl | rfl
                ·
                  refine ⟨_, rfl, rfl, fun K hK => ?_⟩
                  go_simp
                  refine hK _ _ (HSS.out _ C1) ?_
                  clear hK K
                  refine wpAll_cons [8] (by kernel_rfl) ?_
                  intro i' hi'
                  simp only [List.mem_cons, List.not_mem_nil, or_false] at hi'
                  subst hi'
                  refine ⟨_, rfl, rfl, fun K hK => ?_⟩
                  go_simp
                  have C4 := (C1).alloc (.cells #[.int .u8 q] 5)
                  have hz := (Blk.new (wa1) #[.int .u8 q] 5).cell' (i := 0) (v := .int .u8 q) rfl
                  refine hK _ _ (HSS.out _ C4) ?_
                  clear hK K
                  refine wpAll_cons [9] (by kernel_rfl) ?_
                  intro i' hi'
                  simp only [List.mem_cons, List.not_mem_nil, or_false] at hi'
                  subst hi'
                  refine ⟨_, rfl, rfl, fun K hK => ?_⟩
                  have hcv := hconv _ _ hz
                  go_simp
                  refine hK _ _ (HSS.out _ C4) ?_
                  clear hK K hcv
                  refine wpAll_cons [10] (by kernel_rfl) ?_
                  intro i' hi'
                  simp only [List.mem_cons, List.not_mem_nil, or_false] at hi'
                  subst hi'
                  refine ⟨_, rfl, rfl, fun K hK => ?_⟩
                  go_simp
                  refine hK _ _ (HSS.out _ C4) ?_
                  clear hK K
                  refine wpAll_cons [11] (by kernel_rfl) ?_
                  intro i' hi'
                  simp only [List.mem_cons, List.not_mem_nil, or_false] at hi'
                  subst hi'
                  refine ⟨_, rfl, rfl, fun K hK => ?_⟩
                  go_simp
                  refine hK _ _ (HSS.out _ C4) ?_
                  clear hK K
                  refine wpAll_nil ?_
                  have HCE := Lib.hid (cX.step C4)
                  clear hz z0 z1 z2 z3 z4
                  go_wp2_with fail
                  go_roundg (n - (k + 1))
                  case measure => have := HK.out; omega
                  case rel => exact ⟨k + 1, by have := HK.out; omega, by go_num, by rw [← HNX.out], HCE.out⟩
                ·
                  refine ⟨_, rfl, rfl, fun K hK => ?_⟩
                  go_simp
                  have C3 := (C1).alloc (.cells #[.int .u8 q] 5)
                  have hz := (Blk.new (wa1) #[.int .u8 q] 5).cell' (i := 0) (v := .int .u8 q) rfl
                  refine hK _ _ (HSS.out _ C3) ?_
                  clear hK K
                  refine wpAll_cons [4, 9] (by kernel_rfl) ?_
                  intro i' hi'
                  simp only [List.mem_cons, List.not_mem_nil, or_false] at hi'
                  rcases hi' with rfl | rfl
                  ·
                    refine ⟨_, rfl, rfl, fun K hK => ?_⟩
                    go_simp
                    refine hK _ _ (HSS.out _ C3) ?_
                    clear hK K
                    refine wpAll_cons [9] (by kernel_rfl) ?_
                    intro i' hi'
                    simp only [List.mem_cons, List.not_mem_nil, or_false] at hi'
                    subst hi'
                    refine ⟨_, rfl, rfl, fun K hK => ?_⟩
                    have hcv := hconv _ _ hz
                    go_simp
                    refine hK _ _ (HSS.out _ C3) ?_
                    clear hK K hcv
                    refine wpAll_cons [10] (by kernel_rfl) ?_
                    intro i' hi'
                    simp only [List.mem_cons, List.not_mem_nil, or_false] at hi'
                    subst hi'
                    refine ⟨_, rfl, rfl, fun K hK => ?_⟩
                    go_simp
                    refine hK _ _ (HSS.out _ C3) ?_
                    clear hK K
                    refine wpAll_cons [11] (by kernel_rfl) ?_
                    intro i' hi'
                    simp only [List.mem_cons, List.not_mem_nil, or_false] at hi'
                    subst hi'
                    refine ⟨_, rfl, rfl, fun K hK => ?_⟩
                    go_simp
                    refine hK _ _ (HSS.out _ C3) ?_
                    clear hK K
                    refine wpAll_nil ?_
                    have HCE := Lib.hid (cX.step C3)
                    clear hz z0 z1 z2 z3 z4
                    go_wp2_with fail
                    go_roundg (n - (k + 1))
                    case measure => have := HK.out; omega
                    case rel => exact ⟨k + 1, by have := HK.out; omega, by go_num, by rw [← HNX.out], HCE.out⟩
                  ·
                    refine ⟨_, rfl, rfl, fun K hK => ?_⟩
                    have hcv := hconv _ _ hz
                    go_simp
                    refine hK _ _ (HSS.out _ C3) ?_
                    clear hK K hcv
                    refine wpAll_cons [4] (by kernel_rfl) ?_
                    intro i' hi'
                    simp only [List.mem_cons, List.not_mem_nil, or_false] at hi'
                    subst hi'
                    refine ⟨_, rfl, rfl, fun K hK => ?_⟩
                    go_simp
                    refine hK _ _ (HSS.out _ C3) ?_
                    clear hK K
                    refine wpAll_cons [10] (by kernel_rfl) ?_
                    intro i' hi'
                    simp only [List.mem_cons, List.not_mem_nil, or_false] at hi'
                    subst hi'
                    refine ⟨_, rfl, rfl, fun K hK => ?_⟩
                    go_simp
                    refine hK _ _ (HSS.out _ C3) ?_
                    clear hK K
                    refine wpAll_cons [11] (by kernel_rfl) ?_
                    intro i' hi'
                    simp only [List.mem_cons, List.not_mem_nil, or_false] at hi'
                    subst hi'
                    refine ⟨_, rfl, rfl, fun K hK => ?_⟩
                    go_simp
                    refine hK _ _ (HSS.out _ C3) ?_
                    clear hK K
                    refine wpAll_nil ?_
                    have HCE := Lib.hid (cX.step C3)
                    clear hz z0 z1 z2 z3 z4
                    go_wp2_with fail
                    go_roundg (n - (k + 1))
                    case measure => have := HK.out; omega
                    case rel => exact ⟨k + 1, by have := HK.out; omega, by go_num, by rw [← HNX.out], HCE.out⟩
              ·
                refine ⟨_, rfl, rfl, fun K hK => ?_⟩
                go_simp
                have C2 := (C1).alloc (.cells #[.int .u8 q] 5)
                have hz := (Blk.new (wa1) #[.int .u8 q] 5).cell' (i := 0) (v := .int .u8 q) rfl
                refine hK _ _ (HSS.out _ C2) ?_
                clear hK K
                refine wpAll_cons [3, 9] (by kernel_rfl) ?_
                intro i' hi'
                simp only [List.mem_cons, List.not_mem_nil, or_false] at hi'
                rcases hi' with rfl | rfl
                ·
                  refine ⟨_, rfl, rfl, fun K hK => ?_⟩
                  go_simp
                  refine hK _ _ (HSS.out _ C2) ?_
                  clear hK K
                  refine wpAll_cons [4, 9] (by kernel_rfl) ?_
                  intro i' hi'
                  simp only [List.mem_cons, List.not_mem_nil, or_false] at hi'
                  rcases hi' with rfl | rfl
                  ·
                    refine ⟨_, rfl, rfl, fun K hK => ?_⟩
                    go_simp
                    refine hK _ _ (HSS.out _ C2) ?_
                    clear hK K
                    refine wpAll_cons [9] (by kernel_rfl) ?_
                    intro i' hi'
                    simp only [List.mem_cons, List.not_mem_nil, or_false] at hi'
                    subst hi'
                    refine ⟨_, rfl, rfl, fun K hK => ?_⟩
                    have hcv := hconv _ _ hz
                    go_simp
                    refine hK _ _ (HSS.out _ C2) ?_
                    clear hK K hcv
                    refine wpAll_cons [10] (by kernel_rfl) ?_
                    intro i' hi'
                    simp only [List.mem_cons, List.not_mem_nil, or_false] at hi'
                    subst hi'
                    refine ⟨_, rfl, rfl, fun K hK => ?_⟩
                    go_simp
                    refine hK _ _ (HSS.out _ C2) ?_
                    clear hK K
                    refine wpAll_cons [11] (by kernel_rfl) ?_
                    intro i' hi'
                    simp only [List.mem_cons, List.not_mem_nil, or_false] at hi'
                    subst hi'
                    refine ⟨_, rfl, rfl, fun K hK => ?_⟩
                    go_simp
                    refine hK _ _ (HSS.out _ C2) ?_
                    clear hK K
                    refine wpAll_nil ?_
                    have HCE := Lib.hid (cX.step C2)
                    clear hz z0 z1 z2 z3 z4
                    go_wp2_with fail
                    go_roundg (n - (k + 1))
                    case measure => have := HK.out; omega
                    case rel => exact ⟨k + 1, by have := HK.out; omega, by go_num, by rw [← HNX.out], HCE.out⟩
                  ·
                    refine ⟨_, rfl, rfl, fun K hK => ?_⟩
                    have hcv := hconv _ _ hz
                    go_simp
                    refine hK _ _ (HSS.out _ C2) ?_
                    clear hK K hcv
                    refine wpAll_cons [4] (by kernel_rfl) ?_
                    intro i' hi'
                    simp only [List.mem_cons, List.not_mem_nil, or_false] at hi'
                    subst hi'
                    refine ⟨_, rfl, rfl, fun K hK => ?_⟩
                    go_simp
                    refine hK _ _ (HSS.out _ C2) ?_
                    clear hK K
                    refine wpAll_cons [10] (by kernel_rfl) ?_
                    intro i' hi'
                    simp only [List.mem_cons, List.not_mem_nil, or_false] at hi'
                    subst hi'
                    refine ⟨_, rfl, rfl, fun K hK => ?_⟩
                    go_simp
                    refine hK _ _ (HSS.out _ C2) ?_
                    clear hK K
                    refine wpAll_cons [11] (by kernel_rfl) ?_
                    intro i' hi'
                    simp only [List.mem_cons, List.not_mem_nil, or_false] at hi'
                    subst hi'
                    refine ⟨_, rfl, rfl, fun K hK => ?_⟩
                    go_simp
                    refine hK _ _ (HSS.out _ C2) ?_
                    clear hK K
                    refine wpAll_nil ?_
                    have HCE := Lib.hid (cX.step C2)
                    clear hz z0 z1 z2 z3 z4
                    go_wp2_with fail
                    go_roundg (n - (k + 1))
                    case measure => have := HK.out; omega
                    case rel => exact ⟨k + 1, by have := HK.out; omega, by go_num, by rw [← HNX.out], HCE.out⟩
                ·
                  refine ⟨_, rfl, rfl, fun K hK => ?_⟩
                  have hcv := hconv _ _ hz
                  go_simp
                  refine hK _ _ (HSS.out _ C2) ?_
                  clear hK K hcv
                  refine wpAll_cons [3] (by kernel_rfl) ?_
                  intro i' hi'
                  simp only [List.mem_cons, List.not_mem_nil, or_false] at hi'
                  subst hi'
                  refine ⟨_, rfl, rfl, fun K hK => ?_⟩
                  go_simp
                  refine hK _ _ (HSS.out _ C2) ?_
                  clear hK K
                  refine wpAll_cons [4] (by kernel_rfl) ?_
                  intro i' hi'
                  simp only [List.mem_cons, List.not_mem_nil, or_false] at hi'
                  subst hi'
                  refine ⟨_, rfl, rfl, fun K hK => ?_⟩
                  go_simp
                  refine hK _ _ (HSS.out _ C2) ?_
                  clear hK K
                  refine wpAll_cons [10] (by kernel_rfl) ?_
                  intro i' hi'
                  simp only [List.mem_cons, List.not_mem_nil, or_false] at hi'
                  subst hi'
                  refine ⟨_, rfl, rfl, fun K hK => ?_⟩
                  go_simp
                  refine hK _ _ (HSS.out _ C2) ?_
                  clear hK K
                  refine wpAll_cons [11] (by kernel_rfl) ?_
                  intro i' hi'
                  simp only [List.mem_cons, List.not_mem_nil, or_false] at hi'
                  subst hi'
                  refine ⟨_, rfl, rfl, fun K hK => ?_⟩
                  go_simp
                  refine hK _ _ (HSS.out _ C2) ?_
                  clear hK K
                  refine wpAll_nil ?_
                  have HCE := Lib.hid (cX.step C2)
                  clear hz z0 z1 z2 z3 z4
                  go_wp2_with fail
                  go_roundg (n - (k + 1))
                  case measure => have := HK.out; omega
                  case rel => exact ⟨k + 1, by have := HK.out; omega, by go_num, by rw [← HNX.out], HCE.out⟩
            ·
              refine ⟨_, rfl, rfl, fun K hK => ?_⟩
              go_simp
              have C1 := (C00).alloc (.cells #[.int .u8 q] 5)
              have hz := (Blk.new ((wr2.alloc (.cells #[.int .i64 i.op, .int .i64 i.rd, .int .i64 i.rs, .int .i64 i.rt, .int .i64 i.im] 24)).drew) #[.int .u8 q] 5).cell' (i := 0) (v := .int .u8 q) rfl
              rw [hz0] at hz
              refine hK _ _ (HSS.out _ C1) ?_
              clear hK K
              refine wpAll_cons [2, 9] (by kernel_rfl) ?_
              intro i' hi'
              simp only [List.mem_cons, List.not_mem_nil, or_false] at hi'
              rcases hi' with rfl | rfl
              ·
                refine ⟨_, rfl, rfl, fun K hK => ?_⟩
                go_simp
                refine (HPR.out _ (cX.step C1)).mono ?_
                rintro e wa2 ⟨rfl, Ca2⟩
                have C2 := (C1).step Ca2
                refine hK _ _ (HSS.out _ C2) ?_
                replace hz := Ca2.cell hz id
                clear hK K Ca2
                try simp only [Act.put, List.setIfInBounds_toArray, List.set_cons_zero, List.set_cons_succ]
                refine wpAll_cons [3, 9] (by kernel_rfl) ?_
                intro i' hi'
                simp only [List.mem_cons, List.not_mem_nil, or_false] at hi'
                rcases hi' with rfl | rfl
                ·
                  refine ⟨_, rfl, rfl, fun K hK => ?_⟩
                  go_simp
                  refine hK _ _ (HSS.out _ C2) ?_
                  clear hK K
                  refine wpAll_cons [4, 9] (by kernel_rfl) ?_
                  intro i' hi'
                  simp only [List.mem_cons, List.not_mem_nil, or_false] at hi'
                  rcases hi' with rfl | rfl
                  ·
                    refine ⟨_, rfl, rfl, fun K hK => ?_⟩
                    go_simp
                    refine hK _ _ (HSS.out _ C2) ?_
                    clear hK K
                    refine wpAll_cons [9] (by kernel_rfl) ?_
                    intro i' hi'
                    simp only [List.mem_cons, List.not_mem_nil, or_false] at hi'
                    subst hi'
                    refine ⟨_, rfl, rfl, fun K hK => ?_⟩
                    have hcv := hconv _ _ hz
                    go_simp
                    refine hK _ _ (HSS.out _ C2) ?_
                    clear hK K hcv
                    refine wpAll_cons [10] (by kernel_rfl) ?_
                    intro i' hi'
                    simp only [List.mem_cons, List.not_mem_nil, or_false] at hi'
                    subst hi'
                    refine ⟨_, rfl, rfl, fun K hK => ?_⟩
                    go_simp
                    refine hK _ _ (HSS.out _ C2) ?_
                    clear hK K
                    refine wpAll_cons [11] (by kernel_rfl) ?_
                    intro i' hi'
                    simp only [List.mem_cons, List.not_mem_nil, or_false] at hi'
                    subst hi'
                    refine ⟨_, rfl, rfl, fun K hK => ?_⟩
                    go_simp
                    refine hK _ _ (HSS.out _ C2) ?_
                    clear hK K
                    refine wpAll_nil ?_
                    have HCE := Lib.hid (cX.step C2)
                    clear hz z0 z1 z2 z3 z4
                    go_wp2_with fail
                    go_roundg (n - (k + 1))
                    case measure => have := HK.out; omega
                    case rel => exact ⟨k + 1, by have := HK.out; omega, by go_num, by rw [← HNX.out], HCE.out⟩
                  ·
                    refine ⟨_, rfl, rfl, fun K hK => ?_⟩
                    have hcv := hconv _ _ hz
                    go_simp
                    refine hK _ _ (HSS.out _ C2) ?_
                    clear hK K hcv
                    refine wpAll_cons [4] (by kernel_rfl) ?_
                    intro i' hi'
                    simp only [List.mem_cons, List.not_mem_nil, or_false] at hi'
                    subst hi'
                    refine ⟨_, rfl, rfl, fun K hK => ?_⟩
                    go_simp
                    refine hK _ _ (HSS.out _ C2) ?_
                    clear hK K
                    refine wpAll_cons [10] (by kernel_rfl) ?_
                    intro i' hi'
                    simp only [List.mem_cons, List.not_mem_nil, or_false] at hi'
                    subst hi'
                    refine ⟨_, rfl, rfl, fun K hK => ?_⟩
                    go_simp
                    refine hK _ _ (HSS.out _ C2) ?_
                    clear hK K
                    refine wpAll_cons [11] (by kernel_rfl) ?_
                    intro i' hi'
                    simp only [List.mem_cons, List.not_mem_nil, or_false] at hi'
                    subst hi'
                    refine ⟨_, rfl, rfl, fun K hK => ?_⟩
                    go_simp
                    refine hK _ _ (HSS.out _ C2) ?_
                    clear hK K
                    refine wpAll_nil ?_
                    have HCE := Lib.hid (cX.step C2)
                    clear hz z0 z1 z2 z3 z4
                    go_wp2_with fail
                    go_roundg (n - (k + 1))
                    case measure => have := HK.out; omega
                    case rel => exact ⟨k + 1, by have := HK.out; omega, by go_num, by rw [← HNX.out], HCE.out⟩
                ·
                  refine ⟨_, rfl, rfl, fun K hK => ?_⟩
                  have hcv := hconv _ _ hz
                  go_simp
                  refine hK _ _ (HSS.out _ C2) ?_
                  clear hK K hcv
                  refine wpAll_cons [3] (by kernel_rfl) ?_
                  intro i' hi'
                  simp only [List.mem_cons, List.not_mem_nil, or_false] at hi'
                  subst hi'
                  refine ⟨_, rfl, rfl, fun K hK => ?_⟩
                  go_simp
                  refine hK _ _ (HSS.out _ C2) ?_
                  clear hK K
                  refine wpAll_cons [4] (by kernel_rfl) ?_
                  intro i' hi'
                  simp only [List.mem_cons, List.not_mem_nil, or_false] at hi'
                  subst hi'
                  refine ⟨_, rfl, rfl, fun K hK => ?_⟩
                  go_simp
                  refine hK _ _ (HSS.out _ C2) ?_
                  clear hK K
                  refine wpAll_cons [10] (by kernel_rfl) ?_
                  intro i' hi'
                  simp only [List.mem_cons, List.not_mem_nil, or_false] at hi'
                  subst hi'
                  refine ⟨_, rfl, rfl, fun K hK => ?_⟩
                  go_simp
                  refine hK _ _ (HSS.out _ C2) ?_
                  clear hK K
                  refine wpAll_cons [11] (by kernel_rfl) ?_
                  intro i' hi'
                  simp only [List.mem_cons, List.not_mem_nil, or_false] at hi'
                  subst hi'
                  refine ⟨_, rfl, rfl, fun K hK => ?_⟩
                  go_simp
                  refine hK _ _ (HSS.out _ C2) ?_
                  clear hK K
                  refine wpAll_nil ?_
                  have HCE := Lib.hid (cX.step C2)
                  clear hz z0 z1 z2 z3 z4
                  go_wp2_with fail
                  go_roundg (n - (k + 1))
                  case measure => have := HK.out; omega
                  case rel => exact ⟨k + 1, by have := HK.out; omega, by go_num, by rw [← HNX.out], HCE.out⟩
              ·
                refine ⟨_, rfl, rfl, fun K hK => ?_⟩
                have hcv := hconv _ _ hz
                go_simp
                refine hK _ _ (HSS.out _ C1) ?_
                clear hK K hcv
                refine wpAll_cons [2] (by kernel_rfl) ?_
                intro i' hi'
                simp only [List.mem_cons, List.not_mem_nil, or_false] at hi'
                subst hi'
                refine ⟨_, rfl, rfl, fun K hK => ?_⟩
                go_simp
                refine (HPR.out _ (cX.step C1)).mono ?_
                rintro e wa3 ⟨rfl, Ca3⟩
                have C3 := (C1).step Ca3
                refine hK _ _ (HSS.out _ C3) ?_
                replace hz := Ca3.cell hz id
                clear hK K Ca3
                try simp only [Act.put, List.setIfInBounds_toArray, List.set_cons_zero, List.set_cons_succ]
                refine wpAll_cons [3] (by kernel_rfl) ?_
                intro i' hi'
                simp only [List.mem_cons, List.not_mem_nil, or_false] at hi'
                subst hi'
                refine ⟨_, rfl, rfl, fun K hK => ?_⟩
                go_simp
                refine hK _ _ (HSS.out _ C3) ?_
                clear hK K
                refine wpAll_cons [4] (by kernel_rfl) ?_
                intro i' hi'
                simp only [List.mem_cons, List.not_mem_nil, or_false] at hi'
                subst hi'
                refine ⟨_, rfl, rfl, fun K hK => ?_⟩
                go_simp
                refine hK _ _ (HSS.out _ C3) ?_
                clear hK K
                refine wpAll_cons [10] (by kernel_rfl) ?_
                intro i' hi'
                simp only [List.mem_cons, List.not_mem_nil, or_false] at hi'
                subst hi'
                refine ⟨_, rfl, rfl, fun K hK => ?_⟩
                go_simp
                refine hK _ _ (HSS.out _ C3) ?_
                clear hK K
                refine wpAll_cons [11] (by kernel_rfl) ?_
                intro i' hi'
                simp only [List.mem_cons, List.not_mem_nil, or_false] at hi'
                subst hi'
                refine ⟨_, rfl, rfl, fun K hK => ?_⟩
                go_simp
                refine hK _ _ (HSS.out _ C3) ?_
                clear hK K
                refine wpAll_nil ?_
                have HCE := Lib.hid (cX.step C3)
                clear hz z0 z1 z2 z3 z4
                go_wp2_with fail
                go_roundg (n - (k + 1))
                case measure => have := HK.out; omega
                case rel => exact ⟨k + 1, by have := HK.out; omega, by go_num, by rw [← HNX.out], HCE.out⟩
          · obtain rfl : n = k := by omega
            have hnz : ch ≠ 10 := fun e => by
              rw [← HCH.out] at e
              have := congrArg UInt8.toNat e
              rw [UInt8.toNat_ofNat'] at this
              simp at this
              omega
            have hte : ∀ j ∈ l, (textI j).length ≤ 160 := fun j hj => textI_le (HA.out j hj) (HAR.out j hj)
            rw [List.take_of_length_le (by rw [HN.out]; exact Nat.le_refl _)]
            have HP1 := Lib.hid (parse_any (textL l) wr2 (by have := textL_len l hte; rw [HN.out] at this; omega) (HL.out.chg0 HC.out))
            have HP2 := Lib.hid fun w' (c' : Chg NoB w w') => parse_any (noiseL ch l) w' (by have := noiseL_len ch l hte; rw [HN.out] at this; omega) (HL.out.chg0 c')
            have HQ1 := Lib.hid (parse_textL HAR.out (by rw [HN.out]; exact hl60))
            have HQ2 := Lib.hid (parse_noiseL hnz HAR.out (by rw [HN.out]; exact hl60))
            clear hnz hte
            go_wp2_with fail
            refine HP1.out.mono ?_
            rintro e w5 ⟨v5, rfl, C5, lv5, hv5, S5, hS5⟩
            rw [HQ1.out] at hv5 hS5
            simp only [if_true] at hv5
            subst hv5
            have HC5 := Lib.hid (HC.out.step C5)
            have HS5 := Lib.hid hS5
            obtain ⟨p5, c5, rfl⟩ := hS5.form
            clear C5 hS5
            go_wp2_with fail
            refine (HP2.out _ HC5.out).mono ?_
            rintro e w6 ⟨v6, rfl, C6, lv6, hv6, S6, hS6⟩
            rw [HQ2.out] at hv6 hS6
            simp only [if_true] at hv6
            subst hv6
            have HC6 := Lib.hid (HC5.out.step C6)
            have HS6 := Lib.hid hS6
            have HS56 := Lib.hid (HS5.out.chg0 C6)
            obtain ⟨p6, c6, rfl⟩ := hS6.form
            clear C6 hS6
            have hl1 : l.length ≤ 100000 := by have := HN.out; omega
            have HSl6 : Hid (Sl w6 S 5 (.slice p n cap) l.length (iC l)) := Lib.hid (by rw [HN.out]; exact HSl.out.chg0 HC6.out)
            have HM1 := Lib.hid (same_any _ _ _ _ l l w6 HS56.out HSl6.out hl1 hl1)
            rw [decide_eq_true rfl] at HM1
            have HM2 := Lib.hid fun w' (c' : Chg NoB w6 w') => same_any _ _ _ _ l l w' (HS6.out.chg0 c') (HSl6.out.chg0 c') hl1 hl1
            clear hl1
            go_wp2_with fail
            refine HM1.out.mono ?_
            rintro e w7 ⟨rfl, C7⟩
            have HC7 := Lib.hid (HC6.out.step C7)
            have hM3 := HM2.out w7 C7
            simp only [decide_true] at hM3
            have HM3 := Lib.hid hM3
            clear C7 hM3
            go_wp2_with fail
            refine HM3.out.mono ?_
            rintro e w8 ⟨rfl, C8⟩
            have HC8 := Lib.hid (HC7.out.step C8)
            clear C8
            go_wp2_with fail
            go_ret
            exact ⟨rfl, HC8.out⟩
end Go.Proofs.YtfidiiifcmmffaaGreatDoor
