/- A space, a core that runs in it: the unit behind a try. No condition. What must be answered ahead of everything else: a core's first instruction. No condition. -/
import Derived.Test.YthceikgkaellkaaGreatHl
set_option linter.unusedVariables false
set_option linter.unusedSimpArgs false
namespace Go.Proofs.YthceikgkaellkaaGreat
open Go.RowKit Go.RR
/-- What a try leaves of a unit, but for bytes and buffer. -/
structure UStay (u u' : Mu) : Prop where
  fr : u'.fr = u.fr
  satp : u'.satp = u.satp
  mode : u'.mode = u.mode
theorem UStay.refl (u : Mu) : UStay u u := ⟨rfl, rfl, rfl⟩
theorem readF_stay (u : Mu) (va : Nat) (size a pick : Int) : UStay u (readF u va size a pick).2 := by
  unfold readF
  dsimp only
  split <;> exact ⟨rfl, rfl, rfl⟩
theorem storeF_stay (u : Mu) (va : Nat) (size : Int) (v : Nat) (pick : Int) : UStay u (storeF u va size v pick).2 := by
  unfold storeF
  dsimp only
  split <;> exact ⟨rfl, rfl, rfl⟩
theorem swapF_stay (u : Mu) (va : Nat) (size : Int) (t : Nat → Nat) (pick : Int) : UStay u (swapF u va size t pick).2 := by
  unfold swapF
  dsimp only
  split <;> exact ⟨rfl, rfl, rfl⟩
theorem overF_stay (c : Cor) (u : Mu) (i : In) (pick : Int) : UStay u (overF c u i pick).2.2 := by
  unfold overF
  dsimp only
  split
  · split <;> exact readF_stay _ _ _ _ _
  · split
    · split <;> exact storeF_stay _ _ _ _ _
    · split <;> exact swapF_stay _ _ _ _ _
theorem doF_stay (X : Cx) (c : Cor) (u : Mu) (i : In) (pick : Int) : UStay u (doF X c u i pick).2.2 := by
  unfold doF
  dsimp only
  split
  · exact overF_stay _ _ _ _
  · split
    · exact UStay.refl u
    · split
      · exact UStay.refl u
      · split <;> exact UStay.refl u
theorem tryF_stay (X : Cx) (c : Cor) (u : Mu) (pick : Int) : UStay u (tryF X c u pick).2.2 := by
  unfold tryF
  split
  · exact UStay.refl u
  · dsimp only
    split
    · exact readF_stay _ _ _ _ _
    · have h := readF_stay u c.pc 4 0 pick
      split
      · exact h
      · rename_i i _
        have k := doF_stay X c (readF u c.pc 4 0 pick).2 i pick
        exact ⟨k.fr.trans h.fr, k.satp.trans h.satp, k.mode.trans h.mode⟩
theorem SpAt.unit {w w' : World} {L : Pl} {s : Spc} {cb : Nat} {u' : Mu} (h : SpAt w L s) (hcb : ¬ L.All cb) (hu : MuAt w' (Grow L.SM w) L.SB L.ub L.mb L.bb u') (st : UStay s.u u') (c : Chg (fun k => k = cb ∨ L.SM k ∨ L.SB k) w w') :
    SpAt w' (L.grow w w') { s with u := u' } := by
  have nm : ∀ b, b ∈ L.names → ¬ (b = cb ∨ L.SM b ∨ L.SB b) := fun b hb e => by
    obtain ⟨-, h2, h3, -⟩ := h.ap.nm b hb
    rcases e with e | e | e
    · exact hcb (e ▸ .inl hb)
    · exact h2 e
    · exact h3 e
  have ht := h.tab
  have hT : TabAt w' (Grow L.SM w) L.mb s.u.fr L.sb L.mp L.tb s.root { s.tst with b := u'.b } :=
    ⟨st.fr ▸ hu.mem, ht.stk.chg c (nm _ (by simp [Pl.names])) (nm _ (by simp [Pl.names])), c.blk ht.tab (nm _ (by simp [Pl.names])), fun e => e.elim ht.n1 (fun e => by have := ht.stk.blk.lt; omega), fun e => e.elim ht.n2 (fun e => by have := ht.stk.map.lt; omega),
      fun e => e.elim ht.n3 (fun e => by have := ht.tab.lt; omega), ht.n4, ht.n5, ht.ok, ht.us, ht.fr⟩
  have hSC : ∀ k, L.SC k → ¬ (k = cb ∨ L.SM k ∨ L.SB k) := fun k hk e => by
    rcases e with e | e | e
    · exact hcb (e ▸ .inr (.inr (.inr hk)))
    · exact (h.ap.mB k e).2 hk
    · exact h.ap.bC k e hk
  have := h.re c (nm _ (by simp [Pl.names])) (nm _ (by simp [Pl.names])) hSC hT hu.tlb (h.sh.chg c (nm _ (by simp [Pl.names]))) (h.ri.chg c (nm _ (by simp [Pl.names])))
  have e : u' = { s.u with b := u'.b, tlb := u'.tlb } := by
    obtain ⟨b, fr, tl, sa, md⟩ := u'
    have h1 := st.fr; have h2 := st.satp; have h3 := st.mode
    dsimp only at h1 h2 h3
    subst h1 h2 h3
    rfl
  rw [e]
  exact this
/-- A core beside a space. -/
structure Mc (w : World) (L : Pl) (s : Spc) (cb : Nat) (c : Cor) : Prop where
  sp : SpAt w L s
  co : CoreAt w cb c
  ap : ¬ L.All cb
theorem Mc.chg0 {w w' : World} {L : Pl} {s : Spc} {cb : Nat} {c : Cor} (h : Mc w L s cb c) (k : Chg NoB w w') : Mc w' L s cb c := ⟨h.sp.chg0 k, h.co.chg k id, h.ap⟩
theorem Mc.core {w w' : World} {L : Pl} {s : Spc} {cb : Nat} {c c' : Cor} (h : Mc w L s cb c) (hc : CoreAt w' cb c') (k : Chg (fun k => k = cb) w w') : Mc w' L s cb c' := ⟨h.sp.chg k fun j hj e => h.ap (by have e : j = cb := e; exact e ▸ hj), hc, h.ap⟩
def Blks (L : Pl) (cb : Nat) (k : Nat) : Prop := k = cb ∨ L.All k
theorem mcTry_any {X : Cx} {w : World} {L : Pl} {s : Spc} {cb : Nat} {c : Cor} (h : Mc w L s cb c) (hr : c.run = 0) (pick : Int) (hX : ∀ i, instG (readF s.u c.pc 4 0 pick).1.1 = some i → CxFor X i.op) (p1 : -9223372036854775808 ≤ pick) (p2 : pick ≤ 9223372036854775807) :
    Calls Tryz.prog 15 #[.pointer (some ⟨cb, 0, none⟩), .pointer (some ⟨L.ub, 0, none⟩), .int .i64 pick] w (RetW (tryF X c s.u pick).1.agg fun w' => ∃ L' : Pl, Ext L L' w ∧ Mc w' L' { s with u := (tryF X c s.u pick).2.2 } cb (tryF X c s.u pick).2.1 ∧ Chg (Blks L cb) w w') := by
  have hub : L.All L.ub := .inl (by simp [Pl.names])
  refine (try_any h.co h.sp.mu (fun e => h.ap (e ▸ hub)) (fun e => h.ap (.inr (.inl e))) (fun e => h.ap (.inr (.inr (.inl e)))) (fun k hk => h.sp.lt k (.inr (.inl hk))) hr pick hX p1 p2).mono ?_
  rintro e w' ⟨rfl, hc, hm, k⟩
  refine ⟨rfl, L.grow w w', Ext.grow L w w', ⟨h.sp.unit h.ap hm (tryF_stay X c s.u pick) k, hc, fun e => ?_⟩, k.mono fun j _ e => ?_⟩
  · rcases (Ext.grow L w w').2.2 cb e with e | e
    · exact h.ap e
    · have := h.co.blk.lt; omega
  · rcases e with e | e | e
    · exact .inl e
    · exact .inr (.inr (.inl e))
    · exact .inr (.inr (.inr (.inl e)))
end Go.Proofs.YthceikgkaellkaaGreat
set_option linter.unusedVariables false
set_option linter.unusedSimpArgs false
namespace Go.Proofs.YthceikgkaellkaaGreat
open Go.RowKit Go.RR
def nilCx : Cx := ⟨fun _ _ => 0, fun _ _ => 0, fun _ _ => 0, fun _ => 0, fun _ => 0⟩
end Go.Proofs.YthceikgkaellkaaGreat
