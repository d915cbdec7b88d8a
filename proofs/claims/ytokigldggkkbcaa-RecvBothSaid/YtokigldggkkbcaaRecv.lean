/- The receiver: what each call answers, and what it leaves. -/
import Derived.Test.YtokigldggkkbcaaClone
import Derived.Test.YtokigldggkkbcaaMap
set_option linter.unusedVariables false
namespace Go.Proofs.Ytokigldggkkbcaa
open Go.RowKit Go.RR

/-- Bodies that came too early, as their numbers and bytes. -/
abbrev Early := List (Int × ByteArray)
def efind : Early → Int → Option ByteArray
  | [], _ => none
  | p :: e, a => if p.1 = a then some p.2 else efind e a
def edrop : Early → Int → Early
  | [], _ => []
  | p :: e, a => if p.1 = a then e else p :: edrop e a

/-- The map's entries are the early bodies. -/
def EarlyAt (w : World) (S : Nat → Prop) : List (Int × Value) → Early → Prop
  | [], [] => True
  | p :: m, q :: e => p.1 = q.1 ∧ Sl w S 1 p.2 q.2.size (byteCells q.2) ∧ EarlyAt w S m e
  | _, _ => False

theorem EarlyAt.chg {w w' : World} {S S' : Nat → Prop} (c : Chg S' w w') (hs : ∀ k, S k → ¬ S' k) : ∀ {m e}, EarlyAt w S m e → EarlyAt w' S m e
  | [], [], _ => trivial
  | p :: m, q :: e, h => ⟨h.1, h.2.1.chg c hs, EarlyAt.chg c hs h.2.2⟩
theorem EarlyAt.mono {w : World} {S S' : Nat → Prop} (hs : ∀ k, k < w.heap.size → S k → S' k) : ∀ {m e}, EarlyAt w S m e → EarlyAt w S' m e
  | [], [], _ => trivial
  | p :: m, q :: e, h => ⟨h.1, h.2.1.monoIn hs, EarlyAt.mono hs h.2.2⟩
theorem EarlyAt.look {w : World} {S : Nat → Prop} (a : Int) : ∀ {m e}, EarlyAt w S m e → match efind e a with
    | none => mlook m a = none
    | some s => ∃ v, mlook m a = some v ∧ Sl w S 1 v s.size (byteCells s)
  | [], [], _ => rfl
  | p :: m, q :: e, h => by
    have hp := h.1
    by_cases hq : q.1 = a
    · simp only [efind, if_pos hq]
      exact ⟨p.2, by simp [mlook, hp, hq], h.2.1⟩
    · simp only [efind, if_neg hq]
      have hb : (p.1 == a) = false := by simp [hp, hq]
      have := EarlyAt.look a h.2.2
      cases he : efind e a <;> rw [he] at this <;> simpa [mlook, hb] using this
theorem EarlyAt.drop {w : World} {S : Nat → Prop} (a : Int) : ∀ {m e}, EarlyAt w S m e → EarlyAt w S (mdrop m a) (edrop e a)
  | [], [], _ => trivial
  | p :: m, q :: e, h => by
    have hp := h.1
    by_cases hq : q.1 = a
    · simp only [mdrop, edrop, if_pos hq, if_pos (hp.trans hq)]; exact h.2.2
    · simp only [mdrop, edrop, if_neg hq, if_neg (fun e => hq (hp.symm.trans e))]; exact ⟨h.1, h.2.1, EarlyAt.drop a h.2.2⟩
theorem EarlyAt.put {w : World} {S : Nat → Prop} (a : Int) (v : Value) (s : ByteArray) (hv : Sl w S 1 v s.size (byteCells s)) : ∀ {m e}, EarlyAt w S m e → efind e a = none → EarlyAt w S (mput m a v) (e ++ [(a, s)])
  | [], [], _, _ => ⟨rfl, hv, trivial⟩
  | p :: m, q :: e, h, hn => by
    have hp := h.1
    by_cases hq : q.1 = a
    · simp [efind, hq] at hn
    · simp only [efind, if_neg hq] at hn
      simp only [mput, if_neg (fun e => hq (hp.symm.trans e))]
      exact ⟨h.1, h.2.1, EarlyAt.put a v s hv h.2.2 hn⟩
theorem EarlyAt.len {w : World} {S : Nat → Prop} : ∀ {m e}, EarlyAt w S m e → m.length = e.length
  | [], [], _ => rfl
  | p :: m, q :: e, h => by simp [EarlyAt.len h.2.2]
theorem edrop_len : ∀ {e : Early} {a : Int} {s : ByteArray}, efind e a = some s → (edrop e a).length + 1 = e.length
  | [], _, _, h => by simp [efind] at h
  | q :: e, a, s, h => by
    by_cases hq : q.1 = a
    · simp [edrop, hq]
    · simp only [efind, if_neg hq] at h
      simp [edrop, hq, edrop_len h]

/-- A receiver lies in block b, all its memory in S. -/
def RecvAt (S : Nat → Prop) (w : World) (b : Nat) (room : Int) (next : Int) (e : Early) : Prop :=
  ∃ (mb : Nat) (m : List (Int × Value)), S b ∧ S mb ∧ mb ≠ b ∧ Blk w b #[.int .i64 room, .int .u64 next, .map (some mb)] 110 ∧ MapAt w mb .u64 m ∧ EarlyAt w (fun k => S k ∧ k ≠ b ∧ k ≠ mb) m e

theorem RecvAt.chg {S S' : Nat → Prop} {w w' : World} {b : Nat} {room next : Int} {e : Early} (h : RecvAt S w b room next e) (c : Chg S' w w') (hs : ∀ k, S k → ¬ S' k) : RecvAt S w' b room next e := by
  obtain ⟨mb, m, h1, h2, h3, h4, h5, h6⟩ := h
  exact ⟨mb, m, h1, h2, h3, c.blk h4 (hs _ h1), h5.chg c (hs _ h2), h6.chg c fun k hk => hs k hk.1⟩
theorem RecvAt.bound {S S' : Nat → Prop} {w : World} {b : Nat} {room next : Int} {e : Early} (h : RecvAt S w b room next e) (hs : ∀ k, k < w.heap.size → S k → S' k) : RecvAt S' w b room next e := by
  obtain ⟨mb, m, h1, h2, h3, h4, h5, h6⟩ := h
  exact ⟨mb, m, hs _ h4.lt h1, hs _ h5.lt h2, h3, h4, h5, h6.mono fun k hk h => ⟨hs k hk h.1, h.2⟩⟩

/-- A list of bodies: a slice of slices of bytes. -/
def Bodies (w : World) (S : Nat → Prop) : List Value → List ByteArray → Prop
  | [], [] => True
  | v :: vs, s :: ss => Sl w S 1 v s.size (byteCells s) ∧ Bodies w S vs ss
  | _, _ => False
theorem Bodies.chg {w w' : World} {S S' : Nat → Prop} (c : Chg S' w w') (hs : ∀ k, S k → ¬ S' k) : ∀ {vs ss}, Bodies w S vs ss → Bodies w' S vs ss
  | [], [], _ => trivial
  | v :: vs, s :: ss, h => ⟨h.1.chg c hs, Bodies.chg c hs h.2⟩
theorem Bodies.mono {w : World} {S S' : Nat → Prop} (hs : ∀ k, k < w.heap.size → S k → S' k) : ∀ {vs ss}, Bodies w S vs ss → Bodies w S' vs ss
  | [], [], _ => trivial
  | v :: vs, s :: ss, h => ⟨h.1.monoIn hs, Bodies.mono hs h.2⟩
theorem Bodies.snoc {w : World} {S : Nat → Prop} {v : Value} {s : ByteArray} (hv : Sl w S 1 v s.size (byteCells s)) : ∀ {vs ss}, Bodies w S vs ss → Bodies w S (vs ++ [v]) (ss ++ [s])
  | [], [], _ => ⟨hv, trivial⟩
  | v :: vs, s :: ss, h => ⟨h.1, Bodies.snoc hv h.2⟩
theorem Bodies.len {w : World} {S : Nat → Prop} : ∀ {vs ss}, Bodies w S vs ss → vs.length = ss.length
  | [], [], _ => rfl
  | v :: vs, s :: ss, h => by simp [Bodies.len h.2]
theorem Bodies.get {w : World} {S : Nat → Prop} : ∀ {vs ss}, Bodies w S vs ss → ∀ (i : Nat) (s : ByteArray), ss[i]? = some s → ∃ v, vs[i]? = some v ∧ Sl w S 1 v s.size (byteCells s)
  | [], [], _, i, s, h => by simp at h
  | v :: vs, s :: ss, hb, 0, s', h => by simp at h; subst h; exact ⟨v, rfl, hb.1⟩
  | v :: vs, s :: ss, hb, i + 1, s', h => by simpa using hb.2.get i s' (by simpa using h)

/-- The bodies that follow from number n on; what is waited for then, and what stays early. -/
def follow : Nat → Int → Early → List ByteArray × Int × Early
  | 0, n, e => ([], n, e)
  | f + 1, n, e => match efind e n with
    | none => ([], n, e)
    | some s => (s :: (follow f (n + 1) (edrop e n)).1, (follow f (n + 1) (edrop e n)).2)
theorem follow_none {n : Int} {e : Early} (h : efind e n = none) : ∀ f, follow f n e = ([], n, e)
  | 0 => rfl
  | f + 1 => by simp [follow, h]
theorem follow_some {n : Int} {e : Early} {s : ByteArray} (h : efind e n = some s) : follow e.length n e = (s :: (follow (edrop e n).length (n + 1) (edrop e n)).1, (follow (edrop e n).length (n + 1) (edrop e n)).2) := by
  rw [← edrop_len h]; simp [follow, h]

theorem recvNil (w : World) : (∀ a v, Calls Try.prog 16 #[.pointer none, a, v] w (RetW (.tuple #[.slice none 0 0, .bool false]) fun w' => Chg NoB w w')) := by
  intro a v
  go_enter Try.func16, Try.ntmps16
  go_wp2_with fail
  go_quiet (fail)
  go_wp2
  go_ret2
  exact ⟨rfl, (Chg.refl _ _).drewN _⟩
theorem ackNil (w : World) : Calls Try.prog 17 #[.pointer none] w fun e w' => e = .returned (.int .u64 0) ∧ w = w' := by
  go_enter Try.func17, Try.ntmps17
  go_wp2
  go_ret
  exact ⟨rfl, rfl⟩
theorem earlyNil (w : World) : Calls Try.prog 18 #[.pointer none] w fun e w' => e = .returned (.int .i64 0) ∧ w = w' := by
  go_enter Try.func18, Try.ntmps18
  go_wp2
  go_ret
  exact ⟨rfl, rfl⟩
theorem rroomNil (w : World) : Calls Try.prog 19 #[.pointer none] w fun e w' => e = .returned (.int .i64 0) ∧ w = w' := by
  go_enter Try.func19, Try.ntmps19
  go_wp2
  go_ret
  exact ⟨rfl, rfl⟩
theorem ackAt {S : Nat → Prop} {w : World} {b : Nat} {room next : Int} {e : Early} (h : RecvAt S w b room next e) : Calls Try.prog 17 #[.pointer (some ⟨b, 0, none⟩)] w fun e w' => e = .returned (.int .u64 next) ∧ w = w' := by
  obtain ⟨mb, m, h1, h2, h3, h4, h5, h6⟩ := h
  have k : w.cell? ⟨b, 1, none⟩ = some (.int .u64 next) := h4.cell' (i := 1) (by rfl)
  go_enter Try.func17, Try.ntmps17
  go_wp2
  go_ret
  exact ⟨rfl, rfl⟩
theorem rroomAt {S : Nat → Prop} {w : World} {b : Nat} {room next : Int} {e : Early} (h : RecvAt S w b room next e) : Calls Try.prog 19 #[.pointer (some ⟨b, 0, none⟩)] w fun e w' => e = .returned (.int .i64 room) ∧ w = w' := by
  obtain ⟨mb, m, h1, h2, h3, h4, h5, h6⟩ := h
  have k : w.cell? ⟨b, 0, none⟩ = some (.int .i64 room) := h4.cell' (i := 0) (by rfl)
  go_enter Try.func19, Try.ntmps19
  go_wp2
  go_ret
  exact ⟨rfl, rfl⟩
theorem earlyAt {S : Nat → Prop} {w : World} {b : Nat} {room next : Int} {e : Early} (h : RecvAt S w b room next e) : Calls Try.prog 18 #[.pointer (some ⟨b, 0, none⟩)] w fun e' w' => e' = .returned (.int .i64 e.length) ∧ w = w' := by
  obtain ⟨mb, m, h1, h2, h3, h4, h5, h6⟩ := h
  have k : w.cell? ⟨b, 2, none⟩ = some (.map (some mb)) := h4.cell' (i := 2) (by rfl)
  have hl := run_maplen (P := Try.prog) (ty := 3) Try.underlying108 h5
  rw [h6.len] at hl
  go_enter Try.func18, Try.ntmps18
  go_wp2
  go_ret
  exact ⟨rfl, rfl⟩
theorem recvNewBad (room : Int) (w : World) (hr : room < 0 ∨ 64 < room) : Calls Try.prog 15 #[.int .i64 room] w fun e w' => e = .returned (.tuple #[.pointer none, .int .i64 2]) ∧ w = w' := by
  rcases hr with hr | hr
  · have hd : decide (room < 0) = true := by simpa using hr
    go_enter Try.func15, Try.ntmps15
    go_wp2
    go_ret2
    exact ⟨rfl, rfl⟩
  · have hd : decide (room < 0) = false := by simp; omega
    go_enter Try.func15, Try.ntmps15
    go_wp2
    go_ret2
    exact ⟨rfl, rfl⟩
set_option maxRecDepth 100000 in
theorem recvNew (room : Int) (w : World) (h0 : 0 ≤ room) (h1 : room ≤ 64) : Calls Try.prog 15 #[.int .i64 room] w (RetV fun v w' => ∃ b, v = .tuple #[.pointer (some ⟨b, 0, none⟩), .int .i64 0] ∧ RecvAt (fun k => w.heap.size ≤ k) w' b room 1 [] ∧ Chg NoB w w') := by
  have hd : decide (room < 0) = false := by simp; omega
  have hmm := @run_makeMap Try.prog
  go_enter Try.func15, Try.ntmps15
  go_wp2
  go_ret2
  refine ⟨_, rfl, _, rfl, ⟨w.heap.size, [], ?_, ?_, ?_, ?_, ?_, trivial⟩, ((Chg.refl _ _).alloc _).alloc _⟩
  · simp
  · exact Nat.le_refl _
  · simp
  · have := Blk.new (w.alloc (.map #[] 0)) #[.int .i64 room, .int .u64 1, .map (some w.heap.size)] 110
    simpa using this
  · exact (MapAt.new w .u64).chg ((Chg.refl NoB _).alloc _) id

theorem BBinfo : (Try.prog.info? 22).map (fun i => (i.zero, i.size, i.bytes)) = some (some (.slice none 0 0), 1, 24) := by kernel_rfl

set_option maxHeartbeats 1000000 in
set_option maxRecDepth 100000 in
theorem recvRun (S : Nat → Prop) (w : World) (b : Nat) (room next : Int) (e : Early) (h : RecvAt S w b room next e) (h0 : 0 ≤ next) (hb : next + e.length ≤ 1000000) (outs : List ByteArray) (n2 : Int) (e2 : Early) (hf : follow e.length next e = (outs, n2, e2)) :
    Calls Try.prog 68 #[.pointer (some ⟨b, 0, none⟩)] w (RetV fun v w' => RecvAt S w' b room n2 e2 ∧ Chg S w w' ∧ ∃ vs, Own w' (fun k => w.heap.size ≤ k) 22 1 v outs.length vs ∧ Bodies w' S vs outs) := by
  obtain ⟨i0, hi0, hz0, hz1, hz2⟩ := info_parts BBinfo
  obtain ⟨mb, m, hSb, hSm, hne, hB, hM, hE⟩ := h
  have HF := Lib.hid hf
  have hml := hM.lt
  have hbl := hB.lt
  clear hf
  go_enter Try.func68, Try.ntmps68
  go_wp2_with fail
  go_loopg [3] e.length (fun q v wr => ∃ (o1 : List ByteArray) (vs : List Value) (n1 : Int) (e1 : Early) (m1 : List (Int × Value)), e1.length = q ∧ o1.length + q = e.length ∧ n1 = next + o1.length ∧
    outs = o1 ++ (follow e1.length n1 e1).1 ∧ (n2, e2) = (follow e1.length n1 e1).2 ∧
    Blk wr b #[.int .i64 room, .int .u64 n1, .map (some mb)] 110 ∧ MapAt wr mb .u64 m1 ∧ EarlyAt wr (fun k => (S k ∧ k ≠ b ∧ k ≠ mb) ∧ k < w.heap.size) m1 e1 ∧ Own wr (fun k => w.heap.size ≤ k) 22 1 v o1.length vs ∧ Bodies wr (fun k => (S k ∧ k ≠ b ∧ k ≠ mb) ∧ k < w.heap.size) vs o1 ∧ Chg (fun k => k = b ∨ k = mb) w wr)
  case atStart => exact ⟨[], [], next, e, m, rfl, by simp, by simp, by rw [HF.out]; rfl, by rw [HF.out], hB, hM, hE.mono (fun k hk h => ⟨h, hk⟩), Own.nil _ _ _ _, trivial, Chg.refl _ _⟩
  case round =>
    obtain ⟨o1, vs, n1, e1, m1, he1, hoe, hn1, hout, hrest, hB1, hM1, hE1, hO, hBo, C1⟩ := hrel
    clear hB hM hE HF
    have hlook := hE1.look n1
    have e0 : wr.cell? ⟨b, 0, none⟩ = some (.int .i64 room) := hB1.cell' (i := 0) (by rfl)
    have e1' : wr.cell? ⟨b, 1, none⟩ = some (.int .u64 n1) := hB1.cell' (i := 1) (by rfl)
    have e2' : wr.cell? ⟨b, 2, none⟩ = some (.map (some mb)) := hB1.cell' (i := 2) (by rfl)
    have hlk : ∀ n, (Instr.lookup 108 (.map (some mb)) (.int .u64 n1) true).run Try.prog (wr.drewN n) = .ok (.tuple #[(mlook m1 n1).getD (.slice none 0 0), .bool (mlook m1 n1).isSome]) (wr.drewN n) := fun n => run_look2 (P := Try.prog) Try.underlying108 Try.underlying28 hi0 hz0 (show MapAt (wr.drewN n) mb .u64 m1 from hM1) n1
    have HB := Lib.hid hB1
    have HM := Lib.hid hM1
    have HE := Lib.hid hE1
    have HO := Lib.hid hO
    have HBo := Lib.hid hBo
    have HL := Lib.hid he1
    have HOE := Lib.hid hoe
    have HN := Lib.hid hn1
    have HOUT := Lib.hid hout
    have HR := Lib.hid hrest
    clear hB1 hM1 hE1 hO hBo he1 hoe hn1 hout hrest
    cases hfi : efind e1 n1 with
    | none =>
      rw [hfi] at hlook
      simp only [hlook, Option.getD_none, Option.isSome_none] at hlk
      have hfn := follow_none hfi e1.length
      have HFN := Lib.hid hfn
      have HFI := Lib.hid hfi
      clear hlook hfn hfi
      go_wp2_with fail
      go_quiet (fail)
      go_wp2
      go_ret
      have h1 := HOUT.out
      have h2 := HR.out
      rw [HFN.out, List.append_nil] at h1
      rw [HFN.out] at h2
      cases h2
      subst h1
      have CD := (Chg.refl NoB wr).drewN nq
      exact ⟨_, rfl, ⟨mb, m1, hSb, hSm, hne, CD.blk0 HB.out, HM.out.chg CD id, (HE.out.chg CD fun _ _ => id).mono fun k _ h => h.1⟩, (C1.drewN nq).mono fun k _ hk => by rcases hk with rfl | rfl <;> assumption, vs, HO.out.chg0 CD, (HBo.out.chg CD fun _ _ => id).mono fun k _ hk => hk.1.1⟩
    | some s =>
      rw [hfi] at hlook
      obtain ⟨v, hv, hsl⟩ := hlook
      simp only [hv, Option.getD_some, Option.isSome_some] at hlk
      have HFI := Lib.hid hfi
      have HSL := Lib.hid hsl
      clear hv hfi hsl
      have hlen := edrop_len HFI.out
      have hn1b : n1 ≤ 1000000 := by have := HOE.out; have := HN.out; have := HL.out; omega
      have hn10 : 0 ≤ n1 := by have := HN.out; omega
      have HLEN := Lib.hid hlen
      clear hlen
      go_wp2_with fail
      go_quiet (fail)
      go_wp2_with fail
      refine wp_region_plan 8 [] [0, 1, 2, 3, 4, 5, 6, 7] (by kernel_rfl) (by kernel_rfl) (fun _ _ _ _ _ h => h) ?_
      simp only [pickOps_nil, pickOps_cons, Option.getD_some, List.getElem?_toArray, List.getElem?_cons_zero, List.getElem?_cons_succ, List.cons_append, List.nil_append, List.drop_succ_cons, List.drop_zero]
      repeat (go_big_quiet_step (fail))
      refine wpQuiet_nil ?_
      intro w2 hw2
      have C2 := Chg.of_ex hw2
      clear hw2
      have C2' := ((Chg.refl NoB wr).drewN nq).then0 C2
      have hM2 := HM.out.chg C2' id
      clear hlk e0 e1' e2'
      go_wp2_with (refine wpList_mapdel rfl _ _ 108 28 28 22 rfl Try.underlying108 Try.underlying28 rfl hM2 n1 rfl ?_)
      intro w3 hM3 C3
      have C4 : Chg (· = mb) wr w3 := (C2'.mono fun _ _ h => h.elim).step C3
      have hB3 := C4.blk HB.out (Ne.symm hne)
      have hE3 := (HE.out.drop n1).chg C4 fun k hk => hk.1.2.2
      have hO3 := HO.out.chg C4 fun k hk hk2 => absurd hml (Nat.not_lt.2 (hk2 ▸ hk))
      have hBo3 := HBo.out.chg C4 fun k hk => hk.1.2.2
      have hsl3 := HSL.out.chg C4 fun k hk => hk.1.2.2
      have C5 : Chg (fun k => k = b ∨ k = mb) w w3 := C1.step (C4.mono fun k _ h => .inr h)
      clear C2 C2' C3 hM2 C4
      obtain ⟨pv, nv, cv, rfl⟩ : ∃ p n c, v = .slice p n c := by obtain ⟨_, p, c, h, _⟩ := hsl3; exact ⟨p, _, c, h⟩
      have A3 := (Chg.refl NoB w3).alloc (.cells #[.slice pv nv cv] 22)
      have oA := hO3.chg0 A3
      have sA : Sl (w3.alloc (.cells #[.slice pv nv cv] 22)) _ 1 (.slice (some ⟨w3.heap.size, 0, none⟩) 1 1) 1 [.slice pv nv cv] := Sl.fresh w3 [.slice pv nv cv] 22 1 rfl
      have one : ∀ u ∈ [Value.slice pv nv cv], u.oneCell' = true := by simp [Value.oneCell']
      have b1 : o1.length + 1 ≤ maxLen := by have := HOE.out; unfold maxLen; omega
      have b2 : (o1.length + 1) * 24 ≤ 140737488355328 := by have := HOE.out; omega
      have B3 := Lib.hid hB3
      have M3 := Lib.hid hM3
      have E3 := Lib.hid hE3
      have Bo3 := Lib.hid hBo3
      have SL3 := Lib.hid hsl3
      clear hB3 hM3 hE3 hBo3 hsl3 hO3
      go_wp2_with (at_builtin; go_must (refine wpList_app rfl _ _ 29 rfl i0 _ 24 Try.underlying29 hi0 hz0 hz1 hz2 rfl rfl oA _ 1 _ rfl sA one b1 b2 ?_))
      intro v8 w8 o8 g8 _
      have H3 := C5.size
      have C8 : Chg (fun k => w.heap.size ≤ k) w3 w8 := (A3.mono (fun _ _ h => h.elim)).grown g8 (fun k hk => .inl (oA.ownBlock k hk).1)
      replace o8 : Own w8 (fun k => w.heap.size ≤ k) 22 1 v8 (o1.length + 1) (vs ++ [.slice pv nv cv]) := by
        simpa using o8.mono (S' := fun k => w.heap.size ≤ k) (fun k hk => hk.elim (fun h => (oA.ownBlock k h).1) (fun h => by show w.heap.size ≤ k; rw [h]; omega))
      have hB8 := C8.blk B3.out (by omega)
      have k0 : w8.cell? ⟨b, 1, none⟩ = some (.int .u64 n1) := hB8.cell' (i := 1) (by rfl)
      have k1 := hB8.frozen 1
      have B8 := Lib.hid hB8
      have O8 := Lib.hid o8
      clear oA sA one b1 b2 g8 A3 hB8 o8
      go_wp2_with fail
      go_roundg (edrop e1 n1).length
      case measure => have := HLEN.out; have := HL.out; omega
      case rel =>
        have C9 : Chg (· = b) w8 (w8.setCell ⟨b, 1, none⟩ (.int .u64 (n1 + 1))) := (Chg.refl (· = b) _).setCell (a := ⟨b, 1, none⟩) (.inl rfl) _
        have hfs := follow_some HFI.out
        have h1 := HOUT.out
        have h2 := HR.out
        rw [hfs] at h1 h2
        refine ⟨o1 ++ [s], vs ++ [.slice pv nv cv], n1 + 1, edrop e1 n1, mdrop m1 n1, rfl, ?_, ?_, ?_, h2, B8.out.set 1 _, (M3.out.chg C8 (by omega)).chg C9 hne, ?_, ?_, ?_, ?_⟩
        · have := HLEN.out; have := HOE.out; have := HL.out; simp; omega
        · have := HN.out; simp; omega
        · rw [h1]; simp
        · exact (E3.out.chg C8 fun k hk => by omega).chg C9 fun k hk => hk.1.2.1
        · have := (O8.out.chg C9 fun k hk => by omega); simpa using this
        · refine Bodies.snoc ?_ ((Bo3.out.chg C8 fun k hk => by omega).chg C9 fun k hk => hk.1.2.1)
          exact (SL3.out.chg C8 fun k hk => by omega).chg C9 fun k hk => hk.1.2.1
        · exact (C5.trans C8 (fun k hk h => absurd hk (Nat.not_lt.2 h))).setCell (a := ⟨b, 1, none⟩) (.inl (.inl rfl)) _


set_option maxHeartbeats 1000000 in
set_option maxRecDepth 100000 in
theorem takeOut (S : Nat → Prop) (w : World) (b : Nat) (room next seq : Int) (e : Early) (v : Value) (h : RecvAt S w b room next e) (r0 : 0 ≤ room) (r1 : room ≤ 64) (n0 : 0 ≤ next) (n1 : next ≤ 1000000) (s0 : 0 ≤ seq) (s1 : seq ≤ 18446744073709551615)
    (hout : seq < next ∨ room < seq - next) :
    Calls Try.prog 16 #[.pointer (some ⟨b, 0, none⟩), .int .u64 seq, v] w (RetW (.tuple #[.slice none 0 0, .bool false]) fun w' => Chg NoB w w') := by
  obtain ⟨mb, m, hSb, hSm, hne, hB, hM, hE⟩ := h
  have e0 : w.cell? ⟨b, 0, none⟩ = some (.int .i64 room) := hB.cell' (i := 0) (by rfl)
  have e1 : w.cell? ⟨b, 1, none⟩ = some (.int .u64 next) := hB.cell' (i := 1) (by rfl)
  have e2 : w.cell? ⟨b, 2, none⟩ = some (.map (some mb)) := hB.cell' (i := 2) (by rfl)
  have hB' := Lib.hid hB
  have hM' := Lib.hid hM
  have hE' := Lib.hid hE
  clear hB hM hE
  by_cases hlt : seq < next
  · have hd : decide (seq < next) = true := by simpa using hlt
    clear hout
    go_enter Try.func16, Try.ntmps16
    go_wp2_with fail
    go_quiet (fail)
    go_wp2
    go_ret2
    exact ⟨rfl, (Chg.refl _ _).drewN _⟩
  · have hd : decide (seq < next) = false := by simpa using hlt
    have hs : 0 ≤ seq - next := by omega
    have hs1 : seq - next ≤ 18446744073709551615 := by omega
    have hd2 : decide (room < seq - next) = true := by simp; omega
    clear hout
    go_enter Try.func16, Try.ntmps16
    go_wp2_with fail
    go_quiet (fail)
    go_wp2
    go_ret2
    exact ⟨rfl, (Chg.refl _ _).drewN _⟩

set_option maxHeartbeats 1000000 in
set_option maxRecDepth 100000 in
theorem takeHas (S : Nat → Prop) (w : World) (b : Nat) (room next seq : Int) (e : Early) (v : Value) (h : RecvAt S w b room next e) (r0 : 0 ≤ room) (r1 : room ≤ 64) (n0 : 0 ≤ next) (n1 : next ≤ 1000000) (s0 : 0 ≤ seq) (s1 : seq ≤ 18446744073709551615)
    (hin : next ≤ seq) (hin2 : seq - next ≤ room) (s : ByteArray) (hs : efind e seq = some s) :
    Calls Try.prog 16 #[.pointer (some ⟨b, 0, none⟩), .int .u64 seq, v] w (RetW (.tuple #[.slice none 0 0, .bool false]) fun w' => Chg NoB w w') := by
  obtain ⟨i0, hi0, hz0, hz1, hz2⟩ := info_parts BBinfo
  obtain ⟨mb, m, hSb, hSm, hne, hB, hM, hE⟩ := h
  have e0 : w.cell? ⟨b, 0, none⟩ = some (.int .i64 room) := hB.cell' (i := 0) (by rfl)
  have e1 : w.cell? ⟨b, 1, none⟩ = some (.int .u64 next) := hB.cell' (i := 1) (by rfl)
  have e2 : w.cell? ⟨b, 2, none⟩ = some (.map (some mb)) := hB.cell' (i := 2) (by rfl)
  have hB' := Lib.hid hB
  have hM' := Lib.hid hM
  have hE' := Lib.hid hE
  have hl := hE.look seq
  rw [hs] at hl
  obtain ⟨u, hu, -⟩ := hl
  have hlk : ∀ n, (Instr.lookup 108 (.map (some mb)) (.int .u64 seq) true).run Try.prog (w.drewN n) = .ok (.tuple #[u, .bool true]) (w.drewN n) := fun n => by
    have := run_look2 (P := Try.prog) Try.underlying108 Try.underlying28 hi0 hz0 (show MapAt (w.drewN n) mb .u64 m from hM) seq
    rw [hu] at this; exact this
  clear hB hM hE hs hu
  have hd : decide (seq < next) = false := by simpa using hin
  have hs : 0 ≤ seq - next := by omega
  have hs1 : seq - next ≤ 18446744073709551615 := by omega
  have hd2 : decide (room < seq - next) = false := by simp; omega
  go_enter Try.func16, Try.ntmps16
  go_wp2_with fail
  go_quiet (fail)
  go_wp2
  go_ret2
  exact ⟨rfl, (Chg.refl _ _).drewN _⟩

set_option maxHeartbeats 1000000 in
set_option maxRecDepth 100000 in
theorem takeIn (S Sv : Nat → Prop) (w : World) (b : Nat) (room next seq : Int) (e : Early) (v : Value) (s : ByteArray) (h : RecvAt S w b room next e) (hv : Sl w Sv 1 v s.size (byteCells s)) (hsz : s.size ≤ 1000000000) (r0 : 0 ≤ room) (r1 : room ≤ 64) (n0 : 0 ≤ next) (n1 : next + e.length ≤ 900000) (s0 : 0 ≤ seq) (s1 : seq ≤ 18446744073709551615)
    (hin : next ≤ seq) (hin2 : seq - next ≤ room) (hs : efind e seq = none) (outs : List ByteArray) (n2 : Int) (e2' : Early) (hf : follow (e.length + 1) next (e ++ [(seq, s)]) = (outs, n2, e2')) :
    Calls Try.prog 16 #[.pointer (some ⟨b, 0, none⟩), .int .u64 seq, v] w (RetV fun r w' => ∃ q vs, r = .tuple #[q, .bool true] ∧ RecvAt (Grow S w) w' b room n2 e2' ∧ Chg S w w' ∧ Own w' (fun k => w.heap.size ≤ k) 22 1 q outs.length vs ∧ Bodies w' (Grow S w) vs outs) := by
  obtain ⟨i0, hi0, hz0, hz1, hz2⟩ := info_parts BBinfo
  obtain ⟨mb, m, hSb, hSm, hne, hB, hM, hE⟩ := h
  have e0 : w.cell? ⟨b, 0, none⟩ = some (.int .i64 room) := hB.cell' (i := 0) (by rfl)
  have e1 : w.cell? ⟨b, 1, none⟩ = some (.int .u64 next) := hB.cell' (i := 1) (by rfl)
  have e2 : w.cell? ⟨b, 2, none⟩ = some (.map (some mb)) := hB.cell' (i := 2) (by rfl)
  have hB' := Lib.hid hB
  have hM' := Lib.hid hM
  have hE' := Lib.hid hE
  have hl := hE.look seq
  rw [hs] at hl
  simp only at hl
  have hlk : ∀ n, (Instr.lookup 108 (.map (some mb)) (.int .u64 seq) true).run Try.prog (w.drewN n) = .ok (.tuple #[.slice none 0 0, .bool false]) (w.drewN n) := fun n => by
    have := run_look2 (P := Try.prog) Try.underlying108 Try.underlying28 hi0 hz0 (show MapAt (w.drewN n) mb .u64 m from hM) seq
    rw [hl] at this; exact this
  have HS := Lib.hid hs
  have HF := Lib.hid hf
  have HV := Lib.hid hv
  have hvs : ∃ p n c, v = .slice p n c := by obtain ⟨_, p, c, h, _⟩ := hv; exact ⟨p, _, c, h⟩
  clear hB hM hE hs hl hf hv
  have hd : decide (seq < next) = false := by simpa using hin
  have hss : 0 ≤ seq - next := by omega
  have hs1 : seq - next ≤ 18446744073709551615 := by omega
  have hd2 : decide (room < seq - next) = false := by simp; omega
  go_enter Try.func16, Try.ntmps16
  go_wp2_with fail
  go_quiet (fail)
  go_wp2_with fail
  refine wp_region_take 7 [0, 1, 2, 3, 4, 5] [6] (fun w' => w'.cell? ⟨b, 2, none⟩ = some (.map (some mb))) (by kernel_rfl) (by kernel_rfl) (fun _ _ _ _ _ h => h) (e2) ?_
  simp only [pickOps_nil, pickOps_cons, Option.getD_some, List.getElem?_toArray, List.getElem?_cons_zero, List.getElem?_cons_succ, List.cons_append, List.nil_append, List.drop_succ_cons, List.drop_zero]
  repeat
    refine wpTake_cons' rfl ?_
    apply Exists.intro
    refine ⟨fun wS hS => ?_, ?_⟩
    · try dsimp only at hS
      obtain e2 := hS
      go_simp
      try rfl
    simp only [Act.put, List.setIfInBounds_toArray, List.set_cons_zero, List.set_cons_succ]
  refine wpTake_nil ?_
  refine wpForce_cons rfl (fun K hK => ?_)
  go_simp
  refine (b_clone Sv v s.size (byteCells s) _ (show Sl (w.drewN _) Sv 1 v s.size (byteCells s) from HV.out) (by simp [byteCells, Value.oneCell']) (by omega) (by unfold maxLen; omega)).mono ?_
  rintro e' w1 ⟨v1, rfl, o1, C1'⟩
  have C1 := C1'.undrewN
  have hH : w.heap.size ≤ w1.heap.size := C1.size
  have o1 : Own w1 (fun k => w.heap.size ≤ k) 5 1 v1 s.size (byteCells s) := o1
  refine hK _ _ (C1.cell e2 id) ?_
  refine wpForce_nil ?_
  clear hK K C1'
  have hM1 := hM'.out.chg C1 id
  go_wp2_with (refine wpList_mapput rfl _ _ _ 108 28 22 rfl Try.underlying108 Try.underlying28 rfl hM1 seq rfl v1 rfl ?_)
  intro w2 hM2 C2
  have C3 : Chg (· = mb) w w2 := (C1.mono fun _ _ h => h.elim).step C2
  have hml := hM'.out.lt
  have hbl := hB'.out.lt
  have hE2 := ((hE'.out.mono (S' := fun k => (Grow S w k ∧ k ≠ b ∧ k ≠ mb)) fun k _ h => ⟨.inl h.1, h.2⟩).chg C3 fun k hk => hk.2.2).put seq v1 s ((o1.sl.chg C2 (fun k hk h => absurd hml (Nat.not_lt.2 (h ▸ hk)))).mono fun k hk => ⟨.inr hk, by omega, by omega⟩) HS.out
  have hR2 : RecvAt (Grow S w) w2 b room next (e ++ [(seq, s)]) := ⟨mb, _, .inl hSb, .inl hSm, hne, C3.blk hB'.out (Ne.symm hne), hM2, hE2⟩
  clear hM1 hM2 o1 C1 C2 hE2 hB' hM' hE' e0 e1 e2 hlk
  go_wp2_with fail
  refine (recvRun _ w2 b room next _ hR2 n0 (by simp; omega) outs n2 e2' (by rw [List.length_append]; exact HF.out)).mono ?_
  rintro e w4 ⟨q, rfl, R4, C4, vs, O4, B4⟩
  go_wp2
  go_ret2
  have h2 := C3.size
  refine ⟨_, rfl, q, vs, rfl, R4, (C3.mono (S' := S) fun k _ h => h ▸ hSm).trans C4 (fun k hk h => h.resolve_right (Nat.not_le.2 hk)), O4.mono fun k hk => by omega, B4⟩
end Go.Proofs.Ytokigldggkkbcaa
