/- Homes that talk: the law. No condition. Homes that talk: what the law's input reads as, and the library's table. No condition. -/
import Derived.Test.YtdjaeoeejcmhdaaGreatDoorIb
import Derived.Test.YtdjaeoeejcmhdaaGreatDoorHn
import Derived.Test.YtdjaeoeejcmhdaaGreatDoorFb
import Derived.Test.YtdjaeoeejcmhdaaGreatDoorRows
import Derived.Lib.LaidTab
import Derived.LaidSub
import Derived.MakeChecks
import Derived.OpenShut
set_option linter.unusedVariables false
set_option linter.unusedSimpArgs false
namespace Go.Proofs.YtdjaeoeejcmhdaaGreatDoor
open Go.RowKit Go.RR
set_option maxHeartbeats 4000000 in
set_option maxRecDepth 100000 in
theorem homeMoves_any {w : World} (L : Tz24 w) (n : Nat) (hn : n < 256) {S : Nat → Prop} {v : Value} (l : List Nat) (hs : Sl w S 1 v l.length (l.map fun x : Nat => Value.int .u16 x)) (hx : ∀ x ∈ l, x < 65536) (hl : l.length ≤ 9223372036854775807) :
    Calls Tryz.prog 3 #[.int .u8 n, v] w (RetW (.bool true) fun w' => Chg NoB w w') := by
  have HF := Lib.hid (first24_any L)
  obtain ⟨lp, lc, rfl⟩ := hs.form
  have HA := Lib.hid (And.intro L (And.intro hs (And.intro hx hl)))
  have HN := Lib.hid hn
  clear L hs hx hl
  obtain ⟨i0, hi0, hz0, hz1, hz2⟩ := info_parts SPPi
  obtain ⟨i1, hi1, hy0, hy1, hy2⟩ := info_parts HPPi
  go_enter Tryz.func3, Tryz.ntmps3
  go_wp2_with fail
  refine HF.out.mono ?_
  rintro e w1 ⟨rfl, C1⟩
  have HC1 := Lib.hid C1
  clear C1 HF
  obtain ⟨k, hk⟩ : ∃ k, 2 + n % 4 = k := ⟨_, rfl⟩
  go_upto_region 6 with fail
  have ek : (2 : Int) + (n : Int) % 4 = (k : Nat) := by omega
  rw [ek]
  have HK : Hid (2 ≤ k ∧ k ≤ 5) := Lib.hid (by omega)
  clear ek hk
  go_wp2_with fail
  go_loopg [32, 6, 7] k (fun m iv sv hv wr => ∃ (i j : Nat) (hb spb : Nat → Nat) (F : Nat → Nat → Prop), iv = .int .i64 i ∧ m = j ∧ i + j = k ∧ MadeI w wr k i hb spb F sv hv)
  case atStart => exact ⟨0, k, fun _ => 0, fun _ => 0, fun _ _ => False, rfl, rfl, by omega, (by
    have h := MadeI.start w k
    exact ⟨HsP.none .., h.lo, ⟨NoB, NoB, Own.nil .., Own.nil .., fun b hb => hb.elim, fun b hb => hb.elim⟩, HC1.out⟩)⟩
  case round =>
    obtain ⟨i, j, hb, spb, F, rfl, hm, hij, hI⟩ := hrel
    have HM := Lib.hid hm
    have HIJ := Lib.hid hij
    rename World => wr
    clear hm
    cases j with
    | zero =>
      have t1 : decide ((i : Int) < k) = false := decide_eq_false (by omega)
      have t2 : decide (i < k) = false := decide_eq_false (by omega)
      have e : k = i := by omega
      subst e
      obtain ⟨hs, lo, ⟨SS, SH, oS, oH, hSS, hSH⟩, ch⟩ := hI
      obtain ⟨gs, os, sc, rfl, -⟩ := oS.spot (by have := HK.out; omega)
      obtain ⟨gh, oh, hc, rfl, -⟩ := oH.spot (by have := HK.out; omega)
      obtain ⟨mb, hmb⟩ : ∃ b, wr.heap.size = b := ⟨_, rfl⟩
      have ca := (Chg.refl NoB wr).alloc (.map #[] 0)
      have HAI : Hid (AI w (wr.alloc (.map #[] 0)) k hb spb F (G024 k) (fun _ => 0) mb SH SS (.slice (some ⟨gh, oh, none⟩) k hc) (.slice (some ⟨gs, os, none⟩) k sc)) := Lib.hid (by
        refine ⟨⟨hs.all.chg0 ca, lo, ch.step ca⟩, ⟨[], by rw [← hmb]; exact MapAt.new wr .u64, fun x => rfl⟩, oH.sl.chg0 ca, oS.sl.chg0 ca, fun b hb => ?_, fun b hb e => ?_, by rw [← hmb]; exact ch.size⟩
        · rw [World.size_alloc]
          rcases hb with h | h | h
          · have := hSH b h; exact ⟨by omega, this.2.2⟩
          · have := hSS b h; exact ⟨by omega, this.2.2.1⟩
          · refine ⟨by omega, fun e => ?_⟩
            have := hs.lt b e
            omega
        · rcases hb with h | h
          · have := hSH b h; omega
          · have := hSS b h; omega)
      have hmm := @run_makeMap Tryz.prog
      clear hs lo oS oH hSS hSH ch ca hij
      go_wp2_with fail
      try simp only [hmb]
      generalize wr.alloc (.map #[] 0) = w2 at *
      clear hmb hmm t1 t2
      go_loopg [56] l.length (fun m iv wr => ∃ (i j : Nat) (G : Nat → Gs) (F : Nat → Nat → Prop) (g : Nat → Nat) (hv : Nat → Nat → Nat), iv = .int .i64 i ∧ m = j ∧ i + j = l.length ∧ AI w wr k hb spb F G g mb SH SS (.slice (some ⟨gh, oh, none⟩) k hc) (.slice (some ⟨gs, os, none⟩) k sc) ∧ ActTo k G hv (1 + 3 * i) ∧ (∀ p j, p < 2 → j < 3 → g (1073741824 + 8 * j + 4096 * p) = hv p j) ∧ i ≤ 40)
      case atStart => exact ⟨0, l.length, G024 k, F, fun _ => 0, fun _ _ => 0, rfl, rfl, by omega, HAI.out, fun q hq => ⟨pg_start (by have := HK.out; omega), sm_start⟩, fun _ _ _ _ => rfl, by omega⟩
      case round =>
        obtain ⟨i, j, G, F, g, hv, rfl, hm, hij, hI, hT, hg, hi40⟩ := hrel
        rename World => wr
        have HM := Lib.hid hm
        have HIJ := Lib.hid hij
        have HI := Lib.hid (And.intro hI (And.intro hT hg))
        clear hm hI hT hg HAI
        cases j with
        | zero =>
          have t1 : decide ((i : Int) < l.length) = false := decide_eq_false (by omega)
          have t2 : decide (i < l.length) = false := decide_eq_false (by omega)
          go_wp2_with fail
          clear hij t1 t2
          go_loopg [152] k (fun m iv wz => ∃ a b : Nat, iv = .int .i64 a ∧ m = b ∧ a + b = k ∧ Chg NoB wr wz)
          case atStart => exact ⟨0, k, rfl, rfl, by omega, Chg.refl _ _⟩
          case round =>
            obtain ⟨a, b, rfl, hm, hab, hC⟩ := hrel
            rename World => wz
            have HM3 := Lib.hid hm
            have HAB := Lib.hid hab
            clear hm
            cases b with
            | zero =>
              have s1 : decide ((a : Int) < k) = false := decide_eq_false (by omega)
              have s2 : decide (a < k) = false := decide_eq_false (by omega)
              have HX := Lib.hid (HI.out.1.st.ch.step hC)
              clear hC hab
              go_wp2_with fail
              go_ret
              exact ⟨rfl, HX.out⟩
            | succ b =>
              have s1 : decide ((a : Int) < k) = true := decide_eq_true (by omega)
              have s2 : decide (a < k) = true := decide_eq_true (by omega)
              have hak : a < k := by omega
              have hcs := Sl.at24 (HI.out.1.sh.chg0 hC) (by omega)
              have y0 := hcs.2 a _ (hlC_at hak)
              have yl := hcs.1
              have HC := Lib.hid hC
              have HB : Hid (Calls Tryz.prog 12 #[(.pointer (some ⟨hb a, 0, none⟩))] wz (RetV fun v w'' => (∃ p c, v = .slice p 0 c) ∧ Chg NoB wz w'')) := Lib.hid (by
                refine (ndv_busy ((HI.out.1.st.hs.nd a hak).chg0 hC)).mono ?_
                rintro e w'' ⟨v, rfl, l, hO, h0, -, c⟩
                have e1 : l.length = 0 := h0 fun p hp => (HI.out.2.1 p hp).1.fr hak
                rw [e1] at hO
                exact ⟨v, rfl, hO.sl.form, c⟩)
              clear hcs hC hab
              go_wp2_with fail
              refine HB.out.mono ?_
              rintro e w' ⟨v, rfl, ⟨bp, bc, rfl⟩, c'⟩
              have HC2 := Lib.hid (HC.out.step c')
              have ew : wrap64 ((a : Int) + 1) = (a : Int) + 1 := IntWalk.wrap64_in _ (by have := HK.out; omega)
              clear y0 yl c' HB HC s1 s2 hak
              go_wp2_with fail
              go_roundg b
              case rel => exact ⟨a + 1, b, by go_num, rfl, by have := HAB.out; omega, HC2.out⟩
              case measure => have := HM3.out; omega
        | succ j =>
          have t1 : decide ((i : Int) < l.length) = true := decide_eq_true (by omega)
          have t2 : decide (i < l.length) = true := decide_eq_true (by omega)
          obtain ⟨x, hx⟩ : ∃ x, l[i]? = some x := ⟨_, List.getElem?_eq_getElem (by omega)⟩
          have hxb := HA.out.2.2.1 x (List.mem_of_getElem? hx)
          obtain ⟨-, p', c', hv', hnc, hr⟩ := HA.out.2.1
          cases hv'
          obtain ⟨gl, ol, rfl, -, hgl, hcl⟩ := hr (by omega)
          have x0 := HI.out.1.st.ch.cell (hcl i (.int .u16 x) (by rw [List.getElem?_map, hx]; rfl)) id
          have xl := Nat.lt_of_lt_of_le hgl HI.out.1.st.ch.size
          have HXB := Lib.hid hxb
          clear hr hcl hgl hnc hx hxb
          by_cases h40 : 40 ≤ i
          · have t3 : decide ((40 : Int) ≤ i) = true := decide_eq_true (by omega)
            have t4 : decide (40 ≤ i) = true := decide_eq_true (by omega)
            clear h40
            go_wp2_with fail
            clear t3 t4 x0 xl
            clear hij t1 t2
            go_loopg [152] k (fun m iv wz => ∃ a b : Nat, iv = .int .i64 a ∧ m = b ∧ a + b = k ∧ Chg NoB wr wz)
            case atStart => exact ⟨0, k, rfl, rfl, by omega, Chg.refl _ _⟩
            case round =>
              obtain ⟨a, b, rfl, hm, hab, hC⟩ := hrel
              rename World => wz
              have HM3 := Lib.hid hm
              have HAB := Lib.hid hab
              clear hm
              cases b with
              | zero =>
                have s1 : decide ((a : Int) < k) = false := decide_eq_false (by omega)
                have s2 : decide (a < k) = false := decide_eq_false (by omega)
                have HX := Lib.hid (HI.out.1.st.ch.step hC)
                clear hC hab
                go_wp2_with fail
                go_ret
                exact ⟨rfl, HX.out⟩
              | succ b =>
                have s1 : decide ((a : Int) < k) = true := decide_eq_true (by omega)
                have s2 : decide (a < k) = true := decide_eq_true (by omega)
                have hak : a < k := by omega
                have hcs := Sl.at24 (HI.out.1.sh.chg0 hC) (by omega)
                have y0 := hcs.2 a _ (hlC_at hak)
                have yl := hcs.1
                have HC := Lib.hid hC
                have HB : Hid (Calls Tryz.prog 12 #[(.pointer (some ⟨hb a, 0, none⟩))] wz (RetV fun v w'' => (∃ p c, v = .slice p 0 c) ∧ Chg NoB wz w'')) := Lib.hid (by
                  refine (ndv_busy ((HI.out.1.st.hs.nd a hak).chg0 hC)).mono ?_
                  rintro e w'' ⟨v, rfl, l, hO, h0, -, c⟩
                  have e1 : l.length = 0 := h0 fun p hp => (HI.out.2.1 p hp).1.fr hak
                  rw [e1] at hO
                  exact ⟨v, rfl, hO.sl.form, c⟩)
                clear hcs hC hab
                go_wp2_with fail
                refine HB.out.mono ?_
                rintro e w' ⟨v, rfl, ⟨bp, bc, rfl⟩, c'⟩
                have HC2 := Lib.hid (HC.out.step c')
                have ew : wrap64 ((a : Int) + 1) = (a : Int) + 1 := IntWalk.wrap64_in _ (by have := HK.out; omega)
                clear y0 yl c' HB HC s1 s2 hak
                go_wp2_with fail
                go_roundg b
                case rel => exact ⟨a + 1, b, by go_num, rfl, by have := HAB.out; omega, HC2.out⟩
                case measure => have := HM3.out; omega
          · have t3 : decide ((40 : Int) ≤ i) = false := decide_eq_false (by omega)
            have t4 : decide (40 ≤ i) = false := decide_eq_false (by omega)
            have hi39 : Hid (i < 40) := Lib.hid (by omega)
            clear h40
            have q0 : ¬ ((k : Nat) : Int) = 0 := by have := HK.out; omega
            have q1 : ¬ k = 0 := by have := HK.out; omega
            obtain ⟨r, hr⟩ : ∃ r, x % k = r := ⟨_, rfl⟩
            obtain ⟨p, hp⟩ : ∃ p, x / 16 % 2 = p := ⟨_, rfl⟩
            obtain ⟨jj, hj⟩ : ∃ jj, x / 4 % 3 = jj := ⟨_, rfl⟩
            have w16 : ∀ d : Int, 0 ≤ d → d < 65536 → IntKind.u16.wrap d = d := fun d h1 h2 => by rw [IntKind.wrap_u16]; omega
            have w64 : ∀ d : Int, 0 ≤ d → d < 18446744073709551616 → IntKind.u64.wrap d = d := fun d h1 h2 => by rw [IntKind.wrap_u64]; omega
            have tm : ∀ (d m : Int), 0 ≤ d → d.tmod m = d % m := fun d m h => Int.tmod_eq_emod_of_nonneg h
            have hxb := HXB.out
            have hp2 : p < 2 := by omega
            have hj3 : jj < 3 := by omega
            have e1 : (x : Int) % (k : Int) = (r : Nat) := by rw [← hr]; rfl
            have e2 : (1073741824 : Int) + 8 * ((x : Int) / 4 % 3) + 4096 * ((x : Int) / 16 % 2) = ((1073741824 + 4096 * p + 8 * jj : Nat) : Int) := by omega
            obtain ⟨y, hy⟩ : ∃ y : Nat, x / 64 % 2 = y := ⟨_, rfl⟩
            have e3 : (x : Int) / 64 % 2 = (y : Nat) := by omega
            have hy2 : y < 2 := by omega
            have hrk : r < k := by rw [← hr]; exact Nat.mod_lt _ (by omega)
            have HE := Lib.hid (And.intro e1 e2)
            clear e1 e2
            go_upto_region 21 with fail
            rw [HE.out.1, HE.out.2]
            have HR := Lib.hid (And.intro hrk (And.intro hp2 hj3))
            obtain ⟨va, hva⟩ : ∃ va, 1073741824 + 4096 * p + 8 * jj = va := ⟨_, rfl⟩
            rw [hva]
            have HVA := Lib.hid hva
            have HW := Lib.hid (And.intro w16 (And.intro w64 hva))
            have hva0 : (1073741824 : Int) ≤ va := by omega
            have hva1 : (va : Int) < 1073750016 := by omega
            have hpg : ((va : Int) - 1073741824) / 4096 = (p : Nat) := by omega
            have HPG := Lib.hid hpg
            clear hpg hva HE hr hp hj hy hxb hrk hp2 hj3 x0 xl t1 t2
            obtain ⟨qa, hqa⟩ : ∃ qa : Nat, (va : Int) - 1073741824 = qa := ⟨va - 1073741824, by omega⟩
            have f1 : IntKind.u64.wrap ((va : Int) - 1073741824) = (qa : Nat) := by rw [hqa]; exact HW.out.2.1 _ (by omega) (by omega)
            have f2 : IntKind.u64.wrap ((qa : Int) / 4096) = (p : Nat) := by rw [show (qa : Int) / 4096 = (p : Nat) by rw [← hqa]; exact HPG.out]; exact HW.out.2.1 _ (by have := HR.out; omega) (by have := HR.out; omega)
            have f3 : wrap64 ((p : Nat) : Int) = (p : Nat) := IntWalk.wrap64_in _ (by have := HR.out; omega)
            have HF := Lib.hid (And.intro f1 (And.intro f2 f3))
            have hw : IntKind.u16.wrap ((x : Int) / 64) = (x : Int) / 64 := HW.out.1 _ (by omega) (by have := HXB.out; omega)
            obtain rfl | rfl : y = 0 ∨ y = 1 := by omega
            · have g3 : (IntKind.u16.wrap ((x : Int) / 64) % 2 == 1) = false := by rw [hw, e3]; rfl
              clear hva0 hva1 w64 hw e3 hqa f1 f2 f3 w16
              go_upto_region 23 with fail
              clear g3 tm
              have f1 := HF.out.1
              have f2 := HF.out.2.1
              have f3 := HF.out.2.2
              go_upto_region 24 with fail
              rw [f3]
              clear f1 f2 f3
              obtain ⟨hI, hT, hg⟩ := HI.out
              obtain ⟨p1, p2, p3, nn, G', a1, a2, a3, a4, a5⟩ := act_mid HK.out.2 hT hg HR.out.2.1 HR.out.1 HR.out.2.2 HVA.out.symm (acc := 1) (by decide)
              have HFt := Lib.hid (hs_fault1 hI.st.hs HK.out.1 HK.out.2 (p := p) (o := 8 * jj) (i := r) (va := va) HR.out.2.1 (by have := HR.out; omega) HVA.out.symm HR.out.1 p1 p2 (hI.st.tz HA.out.1) (hI.st.db HA.out.1))
              have HPl := Lib.hid (And.intro p3 (And.intro a1 (And.intro a2 (And.intro a3 (And.intro a4 a5)))))
              have hcs := Sl.at24 hI.sh (by have := HK.out; omega)
              have y0 := hcs.2 r _ (hlC_at HR.out.1)
              have yl := hcs.1
              have hrk := HR.out.1
              have HI1 := Lib.hid hI
              clear hI hT hg p1 p2 p3 a1 a2 a3 a4 a5 hcs HI
              go_wp2_with fail
              refine HFt.out.mono ?_
              rintro e wA ⟨v, rfl, r1, rfl, P⟩
              obtain ⟨F1, SP1, hI1, hp1, hSP1⟩ := HI1.out.posts P
              have HT1 := Lib.hid (through24 hI1.st.hs HK.out.1 HK.out.2 HR.out.2.1 hI1.sh (fun b hb => (hI1.ks b (.inl hb)).2) hp1 hSP1 (n := nn) (G' := G') (by rw [updG_at]; exact HPl.out.2.1) (by have := HPl.out.2.2.1; have := hi39.out; omega) (by rw [updG_at]; exact HPl.out.1) (hI1.st.tz HA.out.1) (hI1.st.db HA.out.1))
              have HI2 := Lib.hid hI1
              clear P hI1 hp1 hSP1 y0 yl HFt HI1
              go_wp2_with fail
              refine HT1.out.mono ?_
              rintro e wB ⟨rfl, P⟩
              obtain ⟨F2, hI2⟩ := HI2.out.post P
              rw [updG_updG] at hI2
              clear P HI2 HT1
              obtain ⟨G3, F3, g3, hv3, X, HI3, HM3⟩ : ∃ (G3 : Nat → Gs) (F3 : Nat → Nat → Prop) (g3 : Nat → Nat) (hv3 : Nat → Nat → Nat) (X : Nat), Hid (AI w wB k hb spb F3 G3 g3 mb SH SS (.slice (some ⟨gh, oh, none⟩) k hc) (.slice (some ⟨gs, os, none⟩) k sc)) ∧ Hid (Mid24 k G3 g3 hv3 p r jj va (1 + 3 * i + 3) X) := ⟨_, _, _, _, _, Lib.hid hI2, Lib.hid HPl.out.2.2.2.2.1⟩
              clear hI2 HPl
              obtain ⟨ub, x1, x2⟩ := hs_load HI3.out.st.hs (p := p) (o := 8 * jj) (i := r) (va := va) HR.out.2.1 HR.out.1 (by have := HR.out; omega) (by omega) HM3.out.right (by have := HVA.out; omega)
              rw [HM3.out.get] at x2
              have HU := Lib.hid (x1 _ (Chg.refl NoB _))
              have HLd := Lib.hid (x2 _ (Chg.refl NoB _))
              have hcs := Sl.at24 HI3.out.ss (by have := HK.out; omega)
              have y0 := hcs.2 r _ (hlC_at HR.out.1)
              have yl := hcs.1
              clear x1 x2 hcs
              go_wp2_with fail
              refine HU.out.mono ?_
              rintro e w' ⟨rfl, hw⟩
              subst hw
              clear y0 yl HU
              go_wp2_with fail
              refine HLd.out.mono ?_
              rintro e wN ⟨rfl, P⟩
              obtain ⟨F4, hI4⟩ := HI3.out.post P
              have lk := hI4.mq.look va
              rw [HM3.out.look] at lk
              have hcs := Sl.at24 hI4.sh (by have := HK.out; omega)
              have y0 := hcs.2 r _ (hlC_at HR.out.1)
              have yl := hcs.1
              have HD := Lib.hid (hs_done hI4.st.hs HK.out.1 HK.out.2 HR.out.2.1 HR.out.1 HM3.out.fo noB)
              rw [HM3.out.nil] at HD
              have HI4 := Lib.hid hI4
              clear P hI4 hcs HLd HI3
              go_wp2_with fail
              refine HD.out.mono ?_
              rintro e wD ⟨r2, rfl, P⟩
              obtain ⟨F5, SP5, hI5, hp5, hSP5⟩ := HI4.out.posts P
              have HT2 := Lib.hid (through24 hI5.st.hs HK.out.1 HK.out.2 HR.out.2.1 hI5.sh (fun b hb => (hI5.ks b (.inl hb)).2) hp5 hSP5 (n := 0) (runs_nil k 0 _) (by omega) (HM3.out.nx p HR.out.2.1).2 (hI5.st.tz HA.out.1) (hI5.st.db HA.out.1))
              rw [updG_same] at HT2
              have HI5 := Lib.hid hI5
              clear P hI5 hp5 hSP5 y0 yl lk HD HI4
              go_wp2_with fail
              refine HT2.out.mono ?_
              rintro e wE ⟨rfl, P⟩
              obtain ⟨F6, hI6⟩ := HI5.out.post P
              have HI6 := Lib.hid hI6
              clear P hI6 HI5 HT2
              have ew : wrap64 ((i : Int) + 1) = (i : Int) + 1 := IntWalk.wrap64_in _ (by have := hi39.out; omega)
              go_upto_region 34 with fail
              clear hij t3 t4 q0 q1 hrk
              go_wp2_with fail
              go_roundg j
              case rel => exact ⟨i + 1, j, _, F6, g3, hv3, by go_num, rfl, by have := HIJ.out; omega, HI6.out, (by have h := HM3.out.nx; rwa [show 1 + 3 * i + 3 = 1 + 3 * (i + 1) by omega] at h), HM3.out.hg, by have := hi39.out; omega⟩
              case measure => have := HM.out; omega
            · have g3 : (IntKind.u16.wrap ((x : Int) / 64) % 2 == 1) = true := by rw [hw, e3]; rfl
              clear hva0 hva1 w64 hw e3 hqa f1 f2 f3 w16
              go_upto_region 23 with fail
              clear g3 tm
              have f1 := HF.out.1
              have f2 := HF.out.2.1
              have f3 := HF.out.2.2
              go_upto_region 24 with fail
              rw [f3]
              clear f1 f2 f3
              obtain ⟨hI, hT, hg⟩ := HI.out
              obtain ⟨p1, p2, p3, nn, G', a1, a2, a3, a4, a5⟩ := act_mid HK.out.2 hT hg HR.out.2.1 HR.out.1 HR.out.2.2 HVA.out.symm (acc := 2) (by decide)
              have HFt := Lib.hid (hs_fault2 hI.st.hs HK.out.1 HK.out.2 (p := p) (o := 8 * jj) (i := r) (va := va) HR.out.2.1 (by have := HR.out; omega) HVA.out.symm HR.out.1 p1 p2 (hI.st.tz HA.out.1) (hI.st.db HA.out.1))
              have HPl := Lib.hid (And.intro p3 (And.intro a1 (And.intro a2 (And.intro a3 (And.intro a4 a5)))))
              have hcs := Sl.at24 hI.sh (by have := HK.out; omega)
              have y0 := hcs.2 r _ (hlC_at HR.out.1)
              have yl := hcs.1
              have hrk := HR.out.1
              have HI1 := Lib.hid hI
              clear hI hT hg p1 p2 p3 a1 a2 a3 a4 a5 hcs HI
              go_wp2_with fail
              refine HFt.out.mono ?_
              rintro e wA ⟨v, rfl, r1, rfl, P⟩
              obtain ⟨F1, SP1, hI1, hp1, hSP1⟩ := HI1.out.posts P
              have HT1 := Lib.hid (through24 hI1.st.hs HK.out.1 HK.out.2 HR.out.2.1 hI1.sh (fun b hb => (hI1.ks b (.inl hb)).2) hp1 hSP1 (n := nn) (G' := G') (by rw [updG_at]; exact HPl.out.2.1) (by have := HPl.out.2.2.1; have := hi39.out; omega) (by rw [updG_at]; exact HPl.out.1) (hI1.st.tz HA.out.1) (hI1.st.db HA.out.1))
              have HI2 := Lib.hid hI1
              clear P hI1 hp1 hSP1 y0 yl HFt HI1
              go_wp2_with fail
              refine HT1.out.mono ?_
              rintro e wB ⟨rfl, P⟩
              obtain ⟨F2, hI2⟩ := HI2.out.post P
              rw [updG_updG] at hI2
              clear P HI2 HT1
              obtain ⟨z, hz⟩ : ∃ z : Nat, z = x + 1 := ⟨_, rfl⟩
              have fx0 : IntKind.u64.wrap (x : Int) = x := HW.out.2.1 _ (by omega) (by have := HXB.out; omega)
              have fx : IntKind.u64.wrap ((x : Int) + 1) = (z : Nat) := by rw [hz]; exact HW.out.2.1 _ (by omega) (by have := HXB.out; omega)
              have hzb : z < 18446744073709551616 := by have := HXB.out; omega
              have hr2 : (((updG G p G') p).st r).right = 2 := by
                have h1 := HPl.out.2.2.2.1
                have h2 := hI2.rng HR.out.2.1 HR.out.1
                rw [updG_at] at h2 ⊢
                omega
              obtain ⟨ub, x1, x2⟩ := hs_store hI2.st.hs (p := p) (o := 8 * jj) (i := r) (va := va) HR.out.2.1 HR.out.1 (by have := HR.out; omega) (by omega) hr2 z hzb (by have := HVA.out; omega)
              simp only [updG_updG, updG_at] at x2
              have HU := Lib.hid (x1 _ (Chg.refl NoB _))
              have HSt := Lib.hid (x2 _ (Chg.refl NoB _))
              have HMd := Lib.hid (HPl.out.2.2.2.2.2 (by trivial) z hzb)
              have hcs := Sl.at24 hI2.ss (by have := HK.out; omega)
              have y0 := hcs.2 r _ (hlC_at HR.out.1)
              have yl := hcs.1
              have hrk := HR.out.1
              have HI2 := Lib.hid hI2
              clear x1 x2 hcs hI2 HPl hr2 hz hzb
              go_wp2_with fail
              refine HU.out.mono ?_
              rintro e w' ⟨rfl, hw⟩
              subst hw
              clear y0 yl HU
              go_wp2_with fail
              refine HSt.out.mono ?_
              rintro e wC ⟨rfl, P⟩
              obtain ⟨F3, hI3⟩ := HI2.out.post P
              obtain ⟨m, hm1, hm2⟩ := hI3.mq
              have HI3' := Lib.hid (And.intro hI3 hm2)
              clear P HI2 HSt hI3 hm2
              go_wp2_with (refine wpList_mapput rfl _ _ _ 31 33 33 rfl Tryz.underlying31 Tryz.underlying33 rfl hm1 va rfl (.int .u64 z) rfl ?_)
              intro wM hm3 cM
              obtain ⟨G3, F3, g3, hv3, X, HI3, HM3⟩ : ∃ (G3 : Nat → Gs) (F3 : Nat → Nat → Prop) (g3 : Nat → Nat) (hv3 : Nat → Nat → Nat) (X : Nat), Hid (AI w wM k hb spb F3 G3 g3 mb SH SS (.slice (some ⟨gh, oh, none⟩) k hc) (.slice (some ⟨gs, os, none⟩) k sc)) ∧ Hid (Mid24 k G3 g3 hv3 p r jj va (1 + 3 * i + 3) X) := ⟨_, _, _, _, _, Lib.hid (HI3'.out.1.put (MemQ.put HI3'.out.2 va z hm3) cM), HMd⟩
              clear HI3' HMd hm1 hm3 cM fx fx0
              obtain ⟨ub, x1, x2⟩ := hs_load HI3.out.st.hs (p := p) (o := 8 * jj) (i := r) (va := va) HR.out.2.1 HR.out.1 (by have := HR.out; omega) (by omega) HM3.out.right (by have := HVA.out; omega)
              rw [HM3.out.get] at x2
              have HU := Lib.hid (x1 _ (Chg.refl NoB _))
              have HLd := Lib.hid (x2 _ (Chg.refl NoB _))
              have hcs := Sl.at24 HI3.out.ss (by have := HK.out; omega)
              have y0 := hcs.2 r _ (hlC_at HR.out.1)
              have yl := hcs.1
              clear x1 x2 hcs
              go_wp2_with fail
              refine HU.out.mono ?_
              rintro e w' ⟨rfl, hw⟩
              subst hw
              clear y0 yl HU
              go_wp2_with fail
              refine HLd.out.mono ?_
              rintro e wN ⟨rfl, P⟩
              obtain ⟨F4, hI4⟩ := HI3.out.post P
              have lk := hI4.mq.look va
              rw [HM3.out.look] at lk
              have hcs := Sl.at24 hI4.sh (by have := HK.out; omega)
              have y0 := hcs.2 r _ (hlC_at HR.out.1)
              have yl := hcs.1
              have HD := Lib.hid (hs_done hI4.st.hs HK.out.1 HK.out.2 HR.out.2.1 HR.out.1 HM3.out.fo noB)
              rw [HM3.out.nil] at HD
              have HI4 := Lib.hid hI4
              clear P hI4 hcs HLd HI3
              go_wp2_with fail
              refine HD.out.mono ?_
              rintro e wD ⟨r2, rfl, P⟩
              obtain ⟨F5, SP5, hI5, hp5, hSP5⟩ := HI4.out.posts P
              have HT2 := Lib.hid (through24 hI5.st.hs HK.out.1 HK.out.2 HR.out.2.1 hI5.sh (fun b hb => (hI5.ks b (.inl hb)).2) hp5 hSP5 (n := 0) (runs_nil k 0 _) (by omega) (HM3.out.nx p HR.out.2.1).2 (hI5.st.tz HA.out.1) (hI5.st.db HA.out.1))
              rw [updG_same] at HT2
              have HI5 := Lib.hid hI5
              clear P hI5 hp5 hSP5 y0 yl lk HD HI4
              go_wp2_with fail
              refine HT2.out.mono ?_
              rintro e wE ⟨rfl, P⟩
              obtain ⟨F6, hI6⟩ := HI5.out.post P
              have HI6 := Lib.hid hI6
              clear P hI6 HI5 HT2
              have ew : wrap64 ((i : Int) + 1) = (i : Int) + 1 := IntWalk.wrap64_in _ (by have := hi39.out; omega)
              go_upto_region 34 with fail
              clear hij t3 t4 q0 q1 hrk
              go_wp2_with fail
              go_roundg j
              case rel => exact ⟨i + 1, j, _, F6, g3, hv3, by go_num, rfl, by have := HIJ.out; omega, HI6.out, (by have h := HM3.out.nx; rwa [show 1 + 3 * i + 3 = 1 + 3 * (i + 1) by omega] at h), HM3.out.hg, by have := hi39.out; omega⟩
              case measure => have := HM.out; omega
    | succ j =>
      have t1 : decide ((i : Int) < k) = true := decide_eq_true (by omega)
      have t2 : decide (i < k) = true := decide_eq_true (by omega)
      have HMd := Lib.hid (made24 i k HK.out.1 (by have := HK.out.2; omega) (by omega) wr)
      obtain ⟨hs, lo, ⟨SS, SH, oS, oH, hSS, hSH⟩, ch⟩ := hI
      have HI := Lib.hid (And.intro hs (And.intro lo (And.intro oS (And.intro oH (And.intro hSS (And.intro hSH ch))))))
      clear hs lo oS oH hSS hSH ch hij
      go_wp2_with fail
      refine HMd.out.mono ?_
      rintro e w3 ⟨v3, rfl, h', s', F', rfl, hN, hF, c3⟩
      have HN3 := Lib.hid (And.intro hN (And.intro hF c3))
      have oS3 := (HI.out.2.2.1.chg0 c3).chg0 ((Chg.refl NoB w3).alloc (.cells #[(.pointer (some ⟨s', 0, none⟩))] 26))
      have sS3 := Sl.fresh (size := 1) w3 [(.pointer (some ⟨s', 0, none⟩))] 26 1 rfl
      have one1 : ∀ u ∈ ([(.pointer (some ⟨s', 0, none⟩))] : List Value), u.oneCell' = true := by simp [Value.oneCell']
      have b1 : i + 1 ≤ maxLen := by have := HK.out; have := HIJ.out; unfold maxLen; omega
      have b2 : (i + 1) * 8 ≤ 140737488355328 := by have := HK.out; have := HIJ.out; omega
      clear hN hF c3 HMd
      go_wp2_with (at_builtin; go_must (refine wpList_app rfl _ _ 24 rfl i0 _ 8 Tryz.underlying24 hi0 hz0 hz1 hz2 rfl rfl oS3 _ 1 _ rfl sS3 one1 b1 b2 ?_))
      intro v4 w4 o4 g4
      try intro _
      have c4 : Chg SS w3 w4 := ((Chg.refl SS w3).alloc (.cells #[(.pointer (some ⟨s', 0, none⟩))] 26)).grown g4 fun q hq => .inl (HI.out.2.2.1.ownBlock q hq).1
      have oH4 := ((HI.out.2.2.2.1.chg0 HN3.out.2.2).chg c4 fun b hb e => (HI.out.2.2.2.2.1 b e).2.2.2 hb).chg0 ((Chg.refl NoB w4).alloc (.cells #[(.pointer (some ⟨h', 0, none⟩))] 27))
      have sH4 := Sl.fresh (size := 1) w4 [(.pointer (some ⟨h', 0, none⟩))] 27 1 rfl
      have one2 : ∀ u ∈ ([(.pointer (some ⟨h', 0, none⟩))] : List Value), u.oneCell' = true := by simp [Value.oneCell']
      have HO4 := Lib.hid (And.intro o4 g4)
      clear o4 g4 c4 oS3 sS3 one1
      go_wp2_with (at_builtin; go_must (refine wpList_app rfl _ _ 25 rfl i1 _ 8 Tryz.underlying25 hi1 hy0 hy1 hy2 rfl rfl oH4 _ 1 _ rfl sH4 one2 b1 b2 ?_))
      intro v5 w5 o5 g5
      try intro _
      have HI5 : Hid (MadeI w w5 k (i + 1) (updG hb i h') (updG spb i s') (updG F i F') v4 v5) := Lib.hid (by
        obtain ⟨a1, a2, a3, a4, a5, a6, a7⟩ := HI.out
        exact MadeI.snoc a1 a2 a3 a4 a5 a6 a7 HN3.out.2.2 HN3.out.1 HN3.out.2.1 HO4.out.1 HO4.out.2 o5 g5)
      clear o5 g5 oH4 sH4 one2 b1 b2 HI HN3 HO4
      have ew : wrap64 ((i : Int) + 1) = (i : Int) + 1 := IntWalk.wrap64_in _ (by have := HIJ.out; have := HK.out; omega)
      go_wp2_with fail
      go_roundg j
      case rel => exact ⟨i + 1, j, _, _, _, by go_num, rfl, by have := HIJ.out; omega, HI5.out⟩
      case measure => have := HM.out; omega
end Go.Proofs.YtdjaeoeejcmhdaaGreatDoor
set_option linter.unusedVariables false
set_option linter.unusedSimpArgs false
namespace Go.Proofs.YtdjaeoeejcmhdaaGreatDoor
open Go.RowKit Go.RR
set_option maxRecDepth 100000 in
theorem Tz24.of {w : World} (sh : w.ShapedOpen Tryz.prog) (hL : laidMetH Tryz.prog Rows.homeMovesRow.laid w) : Tz24 w := by
  rw [MakeChecks.laidMetH_plain _ _ _ (by kernel_rfl)] at hL
  have hT := Lib.tabIs_of_head (k := .u8) (zs := [0, 1, 28, 2, 29, 14, 24, 3, 30, 22, 20, 15, 25, 17, 4, 8, 31, 27, 13, 23, 21, 19, 16, 7, 26, 12, 18, 6, 11, 5, 10, 9]) (g := 0) (t := 269) (e := 5) (by kernel_rfl) (by kernel_rfl) Tryz.underlying269 Tryz.underlying5 (by kernel_rfl) (by kernel_rfl) hL
  exact ⟨hT.cell (by kernel_rfl) 0 (by decide), hT.cell (by kernel_rfl) 1 (by decide), hT.cell (by kernel_rfl) 3 (by decide), hT.cell (by kernel_rfl) 7 (by decide), hT.cell (by kernel_rfl) 14 (by decide)⟩
theorem u16s_of {H : Type} {enc : TypeId × Value → H} {w : World} {a : Option Addr} {len cap : Nat} (h : Rd enc Tryz.prog w 22 [.slice a len cap]) :
    ∃ rs : List Nat, rs.length = len ∧ len ≤ 9223372036854775807 ∧ (∀ x ∈ rs, x < 65536) ∧ Sl w (fun k => k < w.heap.size) 1 (.slice a len cap) rs.length (rs.map fun n : Nat => Value.int .u16 n) := by
  obtain ⟨zs, h1, h2, h3, h4⟩ := h.ints Tryz.underlying22 Tryz.underlying32 (by kernel_rfl)
  have hb : ∀ z ∈ zs, 0 ≤ z ∧ z < 65536 := fun z hz => by
    have := bounds_u16 (h2 z hz)
    omega
  refine ⟨zs.map Int.toNat, by rw [List.length_map, h1], h3, fun x hx => ?_, ?_⟩
  · obtain ⟨z, hz, rfl⟩ := List.mem_map.1 hx
    have := hb z hz
    omega
  · rw [List.length_map, List.map_map]
    have e : zs.map ((fun n : Nat => Value.int .u16 n) ∘ Int.toNat) = zs.map (Value.int .u16) := List.map_congr_left fun z hz => by
      have := hb z hz
      show Value.int .u16 ((z.toNat : Nat) : Int) = _
      rw [Int.toNat_of_nonneg this.1]
    rw [e]
    exact h4
end Go.Proofs.YtdjaeoeejcmhdaaGreatDoor
