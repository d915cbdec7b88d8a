/- The buffer of entries: a new one. No condition. -/
import Derived.Test.YtdjaeoeejcmhdaaGreatDoorGr
import Derived.Test.YtdjaeoeejcmhdaaGreatDoorGa
import Derived.Test.YtdjaeoeejcmhdaaGreatDoorGn
set_option linter.unusedVariables false
set_option linter.unusedSimpArgs false
namespace Go.Proofs.YtdjaeoeejcmhdaaGreatDoor
open Go.RowKit Go.RR
theorem WSinfo : (Tryz.prog.info? 161).map (fun i => (i.zero, i.size, i.bytes)) = some (some (.slice none 0 0), 1, 24) := by kernel_rfl
theorem mkWays (W : Nat) (h1 : 1 ≤ W) (h2 : W ≤ 8) (w : World) : (Instr.makeSlice 161 (.int .i64 W) (.int .i64 W)).run Tryz.prog w = .ok (.slice (some ⟨w.heap.size, 0, none⟩) W W) (w.alloc (.cells (wcells (List.replicate W Way.zero)).toArray 230)) := by
  rcases (show W = 1 ∨ W = 2 ∨ W = 3 ∨ W = 4 ∨ W = 5 ∨ W = 6 ∨ W = 7 ∨ W = 8 by omega) with rfl | rfl | rfl | rfl | rfl | rfl | rfl | rfl <;> kernel_rfl
def setCells' (W i : Nat) (gs : Nat → Nat) : List Value := (List.range i).map fun j => .slice (some ⟨gs j, 0, none⟩) W W
structure TNew (w wr : World) (bb W i : Nat) (v : Value) (gs : Nat → Nat) : Prop where
  buf : Blk wr bb #[v] 160
  out : Own wr (fun k => w.heap.size ≤ k ∧ k ≠ bb ∧ ∀ j, j < i → k ≠ gs j) 161 1 v i (setCells' W i gs)
  hd : Head v
  rows : ∀ j, j < i → Blk wr (gs j) (wcells (List.replicate W Way.zero)).toArray 230 ∧ w.heap.size ≤ gs j ∧ gs j ≠ bb
  inj : ∀ j k, j < i → k < i → gs j = gs k → j = k
  bbs : w.heap.size ≤ bb
theorem TNew.next {w wr w3 : World} {bb W i : Nat} {v v' : Value} {gs : Nat → Nat} (h : TNew w wr bb W i v gs) {G b1 : Nat} (hG : wr.heap.size ≤ G) (hb1 : G < b1) {w2 : World} (c2 : Chg NoB wr w2) (hz2 : w2.heap.size = b1 + 1) (hGb : Blk w2 G (wcells (List.replicate W Way.zero)).toArray 230)
    (ho : Own w3 (fun k => v.ownBlock = some k ∨ k = w2.heap.size) 161 1 v' (i + 1) (setCells' W i gs ++ [.slice (some ⟨G, 0, none⟩) W W])) (hg : w2.grownBy w3 v.ownBlock) (hd : Head v') :
    TNew w (w3.setCell ⟨bb, 0, none⟩ v') bb W (i + 1) v' (fun j => if j = i then G else gs j) ∧ Chg (fun k => w.heap.size ≤ k) wr (w3.setCell ⟨bb, 0, none⟩ v') := by
  have hob := h.out.ownBlock
  have hbl := h.buf.lt
  have c3 : Chg (fun k => v.ownBlock = some k) w2 w3 := (Chg.refl _ w2).grown hg fun k hk => .inl hk
  have c4 : Chg (fun k => k = bb) w3 (w3.setCell ⟨bb, 0, none⟩ v') := (Chg.refl (fun k => k = bb) w3).setCell (.inl rfl) _
  have hnb : ¬ v.ownBlock = some bb := fun e => (hob bb e).1.2.1 rfl
  have hb3 := c3.blk (c2.blk0 h.buf) hnb
  have hz := c2.size
  refine ⟨⟨by simpa using hb3.set 0 v', ?_, hd, fun j hj => ?_, fun j k hj hk e => ?_, h.bbs⟩, ?_⟩
  · have e1 : setCells' W (i + 1) (fun j => if j = i then G else gs j) = setCells' W i gs ++ [.slice (some ⟨G, 0, none⟩) W W] := by
      unfold setCells'
      rw [List.range_succ, List.map_append]
      congr 1
      · apply List.map_congr_left
        intro j hj
        dsimp only
        rw [if_neg (by have := List.mem_range.1 hj; omega)]
      · simp
    rw [e1]
    refine (ho.chg c4 fun k hk e => ?_).mono fun k hk => ?_
    · have e : k = bb := e
      subst e
      rcases hk with hk | hk
      · exact hnb hk
      · omega
    · rcases hk with hk | hk
      · obtain ⟨⟨a1, a2, a3⟩, a4⟩ := hob k hk
        refine ⟨a1, a2, fun j hj => ?_⟩
        by_cases hji : j = i
        · rw [if_pos hji]; omega
        · rw [if_neg hji]; exact a3 j (by omega)
      · refine ⟨by have := h.bbs; omega, by omega, fun j hj => ?_⟩
        by_cases hji : j = i
        · rw [if_pos hji]; omega
        · rw [if_neg hji]
          have := (h.rows j (by omega)).1.lt
          omega
  · by_cases hji : j = i
    · rw [if_pos hji]
      have hl := hGb.lt
      refine ⟨(c3.blk hGb fun e => ?_).set_ne (by show G ≠ bb; omega) _, by have := h.bbs; omega, by omega⟩
      have := (hob G e).2
      omega
    · rw [if_neg hji]
      obtain ⟨a1, a2, a3⟩ := h.rows j (by omega)
      exact ⟨(c3.blk (c2.blk0 a1) fun e => (hob _ e).1.2.2 j (by omega) rfl).set_ne (by show gs j ≠ bb; exact a3) _, a2, a3⟩
  · have lt := fun j (hj : j < i) => (h.rows j hj).1.lt
    by_cases hji : j = i
    · by_cases hki : k = i
      · omega
      · rw [if_pos hji, if_neg hki] at e
        have := lt k (by omega)
        omega
    · by_cases hki : k = i
      · rw [if_neg hji, if_pos hki] at e
        have := lt j (by omega)
        omega
      · rw [if_neg hji, if_neg hki] at e
        exact h.inj j k (by omega) (by omega) e
  · refine (((c2.mono (S' := fun k => w.heap.size ≤ k) fun _ _ e => e.elim).trans c3 fun k _ e => (hob k e).1.1).trans c4 fun k _ e => ?_)
    have e : k = bb := e
    rw [e]; exact h.bbs
theorem TNew.done {w wr : World} {bb W i : Nat} {v : Value} {gs : Nat → Nat} (h : TNew w wr bb W i v gs) (h1 : 1 ≤ i) (h2 : i ≤ 64) (w1 : 1 ≤ W) (w2 : W ≤ 8) : TlbAt wr (fun k => w.heap.size ≤ k ∧ k < wr.heap.size) bb (tlbNew i W) := by
  obtain ⟨-, h0 | ⟨g, off, cap, cur, e, hg, hb, hn, hm, hs, hc⟩⟩ := h.out
  · omega
  · rcases h.hd with hh | ⟨g', n', c', hh⟩
    · rw [e] at hh; cases hh
    · rw [e] at hh
      cases hh
      have hlen : (tlbNew i W).length = i := by unfold tlbNew; simp
      have hbuf := h.buf
      rw [e] at hbuf
      refine ⟨g, cap, W, gs, cur, by rw [hlen]; exact hbuf, hb, by rw [hlen]; exact hn, fun j hj => ?_, fun j l hj => ?_, fun j k hj hk => by rw [hlen] at hj hk; exact h.inj j k hj hk, fun j hj => ?_, fun e => hg.2.1 e.symm, ⟨h.bbs, hbuf.lt⟩, ⟨hg.1, hb.lt⟩, by rw [hlen]; exact h1, by rw [hlen]; exact h2, w1, w2⟩
      · rw [hlen] at hj
        have := hc j (.slice (some ⟨gs j, 0, none⟩) W W) (by unfold setCells'; simp [hj])
        rwa [Nat.zero_add] at this
      · have hji : j < i := by have := (List.getElem?_eq_some_iff.1 hj).1; rw [hlen] at this; exact this
        have hl : l = List.replicate W Way.zero := by
          unfold tlbNew at hj
          rw [List.getElem?_replicate, if_pos hji] at hj
          exact (Option.some.inj hj).symm
        subst hl
        obtain ⟨a1, a2, a3⟩ := h.rows j hji
        exact ⟨a1, by simp, ⟨a2, a1.lt⟩, fun x hx => by rw [List.eq_of_mem_replicate hx]; exact Way.zero_ok⟩
      · rw [hlen] at hj
        exact ⟨(h.rows j hj).2.2, fun e => hg.2.2 j hj e.symm⟩
set_option maxHeartbeats 2000000 in
set_option maxRecDepth 100000 in
theorem tlbNew_any (n W : Nat) (h1 : 1 ≤ n) (h2 : n ≤ 64) (w1 : 1 ≤ W) (w2 : W ≤ 8) (hp : bits .and .i64 (n : Int) ((n : Int) - 1) = 0) (w : World) :
    Calls Tryz.prog 33 #[.int .i64 n, .int .i64 W] w (RetW (.tuple #[.pointer (some ⟨w.heap.size, 0, none⟩), .int .i64 0]) fun w' => TlbAt w' (fun k => w.heap.size ≤ k ∧ k < w'.heap.size) w.heap.size (tlbNew n W) ∧ Chg NoB w w') := by
  have t1 : decide ((n : Int) < 1) = false := decide_eq_false (by omega)
  have t1' : decide (n < 1) = false := decide_eq_false (by omega)
  have t2 : decide ((64 : Int) < n) = false := decide_eq_false (by omega)
  have t2' : decide (64 < n) = false := decide_eq_false (by omega)
  have t3 : decide ((W : Int) < 1) = false := decide_eq_false (by omega)
  have t3' : decide (W < 1) = false := decide_eq_false (by omega)
  have t4 : decide ((8 : Int) < W) = false := decide_eq_false (by omega)
  have t4' : decide (8 < W) = false := decide_eq_false (by omega)
  have mk := mkWays W w1 w2
  have HD := Lib.hid (And.intro h1 h2)
  have HT0 : Hid (TNew w (w.alloc (.cells #[.slice none 0 0] 160)) w.heap.size W 0 (.slice none 0 0) (fun _ => 0)) := Lib.hid
    ⟨Blk.new _ _ _, Own.nil _ _ _ _, .inl rfl, fun j hj => by omega, fun j k hj => by omega, Nat.le_refl _⟩
  have HC0 := Lib.hid ((Chg.refl NoB w).alloc (.cells #[.slice none 0 0] 160))
  go_enter Tryz.func33, Tryz.ntmps33
  go_wp2_with fail
  go_loopg [31] n (fun k v wr => ∃ (i : Nat) (x : Value) (gs : Nat → Nat), v = .int .i64 i ∧ i ≤ n ∧ k = n - i ∧ TNew w wr w.heap.size W i x gs ∧ Chg NoB w wr)
  case atStart => exact ⟨0, _, _, rfl, by omega, by omega, HT0.out, HC0.out⟩
  case round =>
    obtain ⟨i, x, gs, rfl, hin, hk, hT, hC⟩ := hrel
    have HK := Lib.hid hk
    have HT := Lib.hid hT
    have HC := Lib.hid hC
    clear hk hC t1 t1' t2 t2' t3 t3' t4 t4'
    by_cases hi : i < n
    · have t1 : decide ((i : Int) < n) = true := decide_eq_true (by omega)
      have t2 : decide (i < n) = true := decide_eq_true hi
      have b0 : wr.cell? ⟨w.heap.size, 0, none⟩ = some x := hT.buf.cell' rfl
      have bl := hT.buf.lt
      have bz := hT.buf.frozen 0
      obtain ⟨xp, xc, hx⟩ := hT.out.form
      subst hx
      clear hT
      go_upto_region 6 with fail
      obtain ⟨i0, hi0, hz0, hz1, hz2⟩ := info_parts WSinfo
      refine wp_region_mix 11 [(true, 0), (true, 1), (true, 2), (true, 3), (true, 4), (true, 5), (false, 6), (false, 7), (false, 8), (true, 9), (true, 10)] (fun w' => w'.cell? ⟨w.heap.size, 0, none⟩ = some (.slice xp i xc)) (by kernel_rfl) (by kernel_rfl) (fun _ _ _ _ _ h => h) (b0) ?_
      simp only [pickMix_nil, pickMix_cons, Option.getD_some, List.getElem?_toArray, List.getElem?_cons_zero, List.getElem?_cons_succ, List.cons_append, List.nil_append, List.drop_succ_cons, List.drop_zero]
      iterate 6
       refine wpMix_take rfl ?_
       apply Exists.intro
       refine ⟨fun wS hS => ?_, ?_⟩
       · try dsimp only at hS
         have cS := hS
         go_simp
         try rfl
       simp only [Act.put, List.setIfInBounds_toArray, List.set_cons_zero, List.set_cons_succ]
      refine wpMix_force rfl (fun K hK => ?_)
      go_simp
      refine hK _ _ (show World.cell? _ _ = _ from (HT.out.buf.alloc (.cells (wcells (List.replicate W Way.zero)).toArray 230)).cell' (i := 0) rfl) ?_
      clear hK K
      refine wpMix_force rfl (fun K hK => ?_)
      go_simp
      refine hK _ _ (show World.cell? _ _ = _ from ((HT.out.buf.alloc (.cells (wcells (List.replicate W Way.zero)).toArray 230)).alloc (.cells #[.slice (some ⟨wr.heap.size, 0, none⟩) W W] 161)).cell' (i := 0) rfl) ?_
      clear hK K
      refine wpMix_force rfl (fun K hK => ?_)
      have hc2 : Chg NoB wr (((wr.alloc (.cells (wcells (List.replicate W Way.zero)).toArray 230)).alloc (.cells #[.slice (some ⟨wr.heap.size, 0, none⟩) W W] 161)).drew) := (((Chg.refl NoB wr).alloc _).alloc _).drew
      have hzx : (((wr.alloc (.cells (wcells (List.replicate W Way.zero)).toArray 230)).alloc (.cells #[.slice (some ⟨wr.heap.size, 0, none⟩) W W] 161)).drew).heap.size = wr.heap.size + 1 + 1 := by simp
      have hG2 : Blk (((wr.alloc (.cells (wcells (List.replicate W Way.zero)).toArray 230)).alloc (.cells #[.slice (some ⟨wr.heap.size, 0, none⟩) W W] 161)).drew) wr.heap.size (wcells (List.replicate W Way.zero)).toArray 230 := (Blk.new wr _ _).alloc _
      have hS2 : Sl (((wr.alloc (.cells (wcells (List.replicate W Way.zero)).toArray 230)).alloc (.cells #[.slice (some ⟨wr.heap.size, 0, none⟩) W W] 161)).drew) (fun _ => True) 1 (.slice (some ⟨wr.heap.size + 1, 0, none⟩) 1 1) 1 [.slice (some ⟨wr.heap.size, 0, none⟩) W W] := by
        have hb : Blk (((wr.alloc (.cells (wcells (List.replicate W Way.zero)).toArray 230)).alloc (.cells #[.slice (some ⟨wr.heap.size, 0, none⟩) W W] 161)).drew) (wr.heap.size + 1) #[.slice (some ⟨wr.heap.size, 0, none⟩) W W] 161 := by
          have := Blk.new (wr.alloc (.cells (wcells (List.replicate W Way.zero)).toArray 230)) #[.slice (some ⟨wr.heap.size, 0, none⟩) W W] 161
          rw [World.size_alloc] at this
          exact this
        exact Sl.of rfl (Nat.le_refl _) trivial hb.lt fun j u hu => by
          rw [Nat.zero_add]
          exact hb.cell' (by simpa using hu)
      generalize ((wr.alloc (.cells (wcells (List.replicate W Way.zero)).toArray 230)).alloc (.cells #[.slice (some ⟨wr.heap.size, 0, none⟩) W W] 161)).drew = wx at *
      refine opwp_app0 (v := .slice xp i xc) _ _ 158 rfl i0 _ 24 Tryz.underlying158 hi0 hz0 hz1 hz2 rfl (by rfl) (HT.out.out.chg0 hc2) _ 1 _ (by rfl) hS2 (by simp [Value.oneCell']) (by unfold maxLen; omega) (by omega) ?_
      intro v' w3 ho hg hnn hd
      have HN := Lib.hid (HT.out.next (Nat.le_refl _) (Nat.lt_succ_self _) hc2 hzx hG2 ho hg (hd HT.out.hd))
      have hnb : ¬ (Value.slice xp i xc).ownBlock = some w.heap.size := fun e => (HT.out.out.ownBlock _ e).1.2.1 rfl
      have hB3 := ((Chg.refl (fun k => (Value.slice xp i xc).ownBlock = some k) wx).grown hg fun k hk => .inl hk).blk (hc2.blk0 HT.out.buf) hnb
      refine hK _ _ (hB3.cell' (i := 0) rfl) ?_
      clear hK K
      iterate 2
       refine wpMix_take rfl ?_
       apply Exists.intro
       refine ⟨fun wS hS => ?_, ?_⟩
       · try dsimp only at hS
         have cS := hS
         go_simp
         try rfl
       simp only [Act.put, List.setIfInBounds_toArray, List.set_cons_zero, List.set_cons_succ]
      refine wpMix_nil ?_
      obtain ⟨yp, yc, hy⟩ := ho.form
      subst hy
      have k0 := hB3.cell' (i := 0) (v := .slice xp i xc) rfl
      have kl := hB3.lt
      have kf := hB3.frozen 0
      clear hc2 hzx hG2 hS2 ho hg hnn hd hnb hB3 hi0 hz0 hz1 hz2 b0 bl bz
      go_wp2_with fail
      go_roundg (n - (i + 1))
      case rel => exact ⟨i + 1, _, _, by go_num, by omega, rfl, HN.out.1, HC.out.trans HN.out.2 fun k hk e => absurd e (by omega)⟩
      case measure => rw [HK.out]; omega
    · have t1 : decide ((i : Int) < n) = false := decide_eq_false (by omega)
      have t2 : decide (i < n) = false := decide_eq_false hi
      have HX : Hid (TlbAt wr (fun k => w.heap.size ≤ k ∧ k < wr.heap.size) w.heap.size (tlbNew n W)) := Lib.hid (by
        have := HT.out.done (by have := HD.out; omega) (by have := HD.out; omega) w1 w2
        rw [show n = i by omega]
        exact this)
      clear hT
      go_wp2_with fail
      go_ret2
      exact ⟨rfl, HX.out, HC.out⟩
end Go.Proofs.YtdjaeoeejcmhdaaGreatDoor
