/- Steps of a law on a journal: plain law. -/
import Derived.Test.YtpadgkkeihhneaaGreatC34
namespace Go.Proofs.YtpadgkkeihhneaaGreat
set_option maxRecDepth 100000
set_option linter.unusedSimpArgs false
set_option linter.unusedVariables false
/-- What the law's open does: a failed disk crashes first; if Open fails, the disk crashes and Open runs again. -/
def reopen (D : DS) : JS × DS × Int :=
 if (jOpen (if D.failed then dCrash D [] else D)).2.2 = 0 then jOpen (if D.failed then dCrash D [] else D)
 else jOpen (dCrash (jOpen (if D.failed then dCrash D [] else D)).2.1 [])
/-- The disk has failed; a crash without coincidence leaves a journal. -/
structure Dead (D : DS) (k : Nat) : Prop where
 sound : Sound D
 failed : D.failed = true
 left : ∀ s, coin D s = false → ∃ J, Found (dCrash D s) J ∧ J.turn ≤ k
/-- Between two steps. -/
def Inv (D : DS) (J : JS) (k : Nat) : Prop := Live D J ∧ J.turn ≤ k ∨ Dead D k ∧ J.broken = true
theorem Live.sound {D : DS} {J : JS} (h : Live D J) : Sound D := h.toFound.sound
theorem Inv.sound {D : DS} {J : JS} {k : Nat} (h : Inv D J k) : Sound D := by
 rcases h with ⟨h, _⟩ | ⟨h, _⟩
 ·exact h.sound
 ·exact h.sound
theorem Inv.mono {D : DS} {J : JS} {k k' : Nat} (h : Inv D J k) (hk : k ≤ k') : Inv D J k' := by
 rcases h with ⟨h, h2⟩ | ⟨h, h2⟩
 ·exact .inl ⟨h, by omega⟩
 ·exact .inr ⟨⟨h.sound, h.failed, fun s hs => by obtain ⟨J', h3, h4⟩ := h.left s hs; exact ⟨J', h3, by omega⟩⟩, h2⟩
theorem Left.inv {D : DS} {J J2 : JS} {r : DS × JS × Int} {k : Nat} (h : Left D J J2 r) (hl : Live D J) (h1 : J.turn ≤ k) (h2 : J2.turn ≤ k) : Inv r.1 r.2.1 k := by
 cases h with
 | done e0 e1 e2 => rw [← e1] at h2 e2; exact .inl ⟨e2, h2⟩
 | refused e0 e1 e2 => rw [e1, e2]; exact .inl ⟨hl, h1⟩
 | failed e0 e1 e2 e3 e4 =>
  refine .inr ⟨⟨e3, e2, fun s hs => ?_⟩, by rw [e1]⟩
  rcases e4 s hs with e | e
  ·exact ⟨_, e, h1⟩
  ·exact ⟨_, e, h2⟩
theorem inv_append {D : DS} {J : JS} {k : Nat} (h : Inv D J k) (s : List UInt8) : Inv (jAppend D J s).1 (jAppend D J s).2.1 k := by
 rcases h with ⟨h, h1⟩ | ⟨h, h1⟩
 ·exact (append_left h s).inv h h1 h1
 ·unfold jAppend
  rw [if_pos (.inl h1)]
  exact .inr ⟨h, h1⟩
theorem inv_save {D : DS} {J : JS} {k : Nat} (h : Inv D J k) (hk : k + 1 < 2 ^ 39) (s : List UInt8) : Inv (jSave D J s).1 (jSave D J s).2.1 (k + 1) := by
 rcases h with ⟨h, h1⟩ | ⟨h, h1⟩
 ·exact (save_left h s (by omega)).inv h (by omega) (by dsimp only; omega)
 ·unfold jSave
  rw [if_pos h1]
  exact Inv.mono (.inr ⟨h, h1⟩) (Nat.le_succ k)
theorem fail_ok {D : DS} (h : D.Ok) (n : Int) (hn : n ≤ 9223372036854775807) : (dFailAfter D n).Ok := ⟨h.pages, h.pend, by unfold dFailAfter; dsimp only; omega⟩
theorem inv_fail {D : DS} {J : JS} {k : Nat} (h : Inv D J k) (n : Int) (hn : n ≤ 9223372036854775807) : Inv (dFailAfter D n) J k := by
 rcases h with ⟨h, h1⟩ | ⟨h, h1⟩
 ·exact .inl ⟨h.other rfl h.pend h.nf (fail_ok h.ok n hn), h1⟩
 ·exact .inr ⟨⟨⟨fail_ok h.sound.ok n hn, h.sound.len, h.sound.top, h.sound.pend, h.sound.few⟩, h.failed, h.left⟩, h1⟩
theorem reopen_found {D : DS} {J : JS} (h : Found D J) : ∃ D', reopen D = (J, D', 0) ∧ Live D' J := by
 unfold reopen
 rw [h.nf]
 show ∃ D', (if (jOpen D).2.2 = 0 then jOpen D else jOpen (dCrash (jOpen D).2.1 [])) = _ ∧ _
 rcases jOpen_any h with ⟨D', e, hl⟩ | ⟨L, h1, h2, e⟩
 ·exact ⟨D', by rw [e, if_pos rfl], hl⟩
 ·rw [e]
  rw [if_neg (by show ¬ (10 : Int) = 0; decide)]
  have hok : (⟨D.pages, L, 0, true⟩ : DS).Ok := ⟨h.ok.pages, h1, by show -1 ≤ (0 : Int) ∧ (0 : Int) ≤ 9223372036854775807; omega⟩
  show ∃ D', jOpen (dCrash ⟨D.pages, L, 0, true⟩ []) = _ ∧ _
  rw [crash_nil hok]
  have h2 : Found (⟨D.pages, [], -1, false⟩ : DS) J := h.other rfl rfl rfl ⟨h.ok.pages, (fun w hw => by cases hw), by show -1 ≤ (-1 : Int) ∧ (-1 : Int) ≤ 9223372036854775807; omega⟩
  obtain ⟨D', e, hl, _⟩ := jOpen_calm h2 rfl
  exact ⟨D', e, hl⟩
theorem reopen_failed {D : DS} (h : D.failed = true) : reopen D = reopen (dCrash D []) := by
 have h2 : (dCrash D []).failed = false := rfl
 unfold reopen
 rw [h, h2]
 rfl
theorem inv_reopen {D : DS} {J : JS} {k : Nat} (h : Inv D J k) : ∃ D' J', reopen D = (J', D', 0) ∧ Live D' J' ∧ J'.turn ≤ k := by
 rcases h with ⟨h, h1⟩ | ⟨h, h1⟩
 ·obtain ⟨D', e, hl⟩ := reopen_found h.toFound
  exact ⟨D', J, e, hl, h1⟩
 ·obtain ⟨J', hf, hk⟩ := h.left [] (coin_nil h.sound.ok)
  rw [reopen_failed h.failed]
  obtain ⟨D', e, hl⟩ := reopen_found hf
  exact ⟨D', J', e, hl, hk⟩
theorem Live.crash {D : DS} {J : JS} (h : Live D J) (s : List Int) : Live (dCrash D s) J := by
 refine h.other ?_ rfl rfl (dCrash_ok h.ok s)
 rw [crash_none h.pend]
theorem inv_crash {D : DS} {J : JS} {k : Nat} (h : Inv D J k) (s : List Int) (hc : coin D s = false) : ∃ D' J', reopen (dCrash D s) = (J', D', 0) ∧ Live D' J' ∧ J'.turn ≤ k := by
 rcases h with ⟨h, h1⟩ | ⟨h, h1⟩
 ·obtain ⟨D', e, hl⟩ := reopen_found (h.crash s).toFound
  exact ⟨D', J, e, hl, h1⟩
 ·obtain ⟨J', hf, hk⟩ := h.left s hc
  obtain ⟨D', e, hl⟩ := reopen_found hf
  exact ⟨D', J', e, hl, hk⟩
/-- What the law on crashes asks. -/
theorem crash_law {D : DS} {J J2 : JS} {r : DS × JS × Int} (hl : Live D J) (h : Left D J J2 r) (s : List Int) (hc : coin r.1 s = false) :
 ∃ D', (jOpen (dCrash r.1 s) = (J2, D', 0) ∨ jOpen (dCrash r.1 s) = (J, D', 0) ∧ (r.2.1 = J ∨ r.2.1 = { J with broken := true })) := by
 cases h with
 | done e0 e1 e2 =>
  obtain ⟨D', e, _, _⟩ := jOpen_calm (e2.crash s).toFound rfl
  exact ⟨D', .inl e⟩
 | refused e0 e1 e2 =>
  rw [e1]
  obtain ⟨D', e, _, _⟩ := jOpen_calm (hl.crash s).toFound rfl
  exact ⟨D', .inr ⟨e, .inl e2⟩⟩
 | failed e0 e1 e2 e3 e4 =>
  rcases e4 s hc with e | e
  ·obtain ⟨D', e, _, _⟩ := jOpen_calm e rfl
   exact ⟨D', .inr ⟨e, .inr e1⟩⟩
  ·obtain ⟨D', e, _, _⟩ := jOpen_calm e rfl
   exact ⟨D', .inl e⟩
/-! ### Any contents of the disk -/
theorem sound_fail {D : DS} (h : Sound D) (n : Int) (hn : n ≤ 9223372036854775807) : Sound (dFailAfter D n) := ⟨fail_ok h.ok n hn, h.len, h.top, h.pend, h.few⟩
theorem sound_crash {D : DS} (h : Sound D) (s : List Int) : Sound (dCrash D s) ∧ (dCrash D s).pages.length = D.pages.length := by
 have hl : (dCrash D s).pages.length = D.pages.length := settle_len _ _ _ _
 exact ⟨⟨dCrash_ok h.ok s, by rw [hl]; exact h.len, by rw [hl]; exact h.top, fun _ => rfl, Nat.zero_le _⟩, hl⟩
theorem sound_append {D : DS} {J : JS} (h : Sound D) (hb : D.failed = true → J.broken = true) (ht : J.turn ≤ 1099511628000) (hr : J.records.length ≤ 500000) (hu : J.used ≤ half D) (s : List UInt8) :
 Sound (jAppend D J s).1 ∧ (jAppend D J s).1.pages.length = D.pages.length ∧ ((jAppend D J s).1.failed = true → (jAppend D J s).2.1.broken = true) ∧ (jAppend D J s).2.1.used ≤ half D ∧ (jAppend D J s).2.1.turn = J.turn ∧ (jAppend D J s).2.1.records.length ≤ J.records.length + 1 := by
 unfold jAppend
 by_cases h0 : J.broken = true ∨ J.turn = 0
 ·rw [if_pos h0]
  exact ⟨h, rfl, hb, hu, rfl, Nat.le_succ _⟩
 ·rw [if_neg h0]
  have hf : D.failed = false := by cases e : D.failed with | false => rfl | true => exact absurd (.inl (hb e)) h0
  by_cases h1 : jFree D J < pagesN s.length
  ·rw [if_pos h1]
   exact ⟨h, rfl, hb, hu, rfl, Nat.le_succ _⟩
  ·rw [if_neg h1]
   have hu2 : J.used + pagesN s.length ≤ half D := by unfold jFree at h1; rw [if_neg (fun e => h0 (.inr e))] at h1; omega
   have hps := jPut_sound h hf J.turn (J.records.length + 1) J.used s (by omega) (by omega) hu2
   have hcd := dWrites_code h.ok hf _ (putAll_ok h.len h.top J.turn (J.records.length + 1) J.used s (by omega) (by omega) hu2)
   change (jPut D J.turn (J.records.length + 1) J.used s).2 = 0 ∧ _ ∨ (jPut D J.turn (J.records.length + 1) J.used s).2 = 10 ∧ _ at hcd
   by_cases h2 : (jPut D J.turn (J.records.length + 1) J.used s).2 = 0
   ·rw [if_pos h2]
    refine ⟨hps.1, hps.2, fun e => ?_, hu2, rfl, by dsimp only; rw [List.length_append, List.length_singleton]; omega⟩
    rcases hcd with ⟨_, e2⟩ | ⟨e2, _⟩
    ·change (jPut D J.turn (J.records.length + 1) J.used s).1.failed = true at e
     change (jPut D J.turn (J.records.length + 1) J.used s).1.failed = false at e2
     rw [e] at e2; cases e2
    ·omega
   ·rw [if_neg h2]
    exact ⟨hps.1, hps.2, fun _ => rfl, hu, rfl, Nat.le_succ _⟩
theorem sound_save {D : DS} {J : JS} (h : Sound D) (hb : D.failed = true → J.broken = true) (ht : J.turn ≤ 1099511628000) (hr : J.records.length ≤ 500000) (hu : J.used ≤ half D) (s : List UInt8) :
 Sound (jSave D J s).1 ∧ (jSave D J s).1.pages.length = D.pages.length ∧ ((jSave D J s).1.failed = true → (jSave D J s).2.1.broken = true) ∧ (jSave D J s).2.1.used ≤ half D ∧ (jSave D J s).2.1.turn ≤ J.turn + 1 ∧ (jSave D J s).2.1.records.length ≤ J.records.length := by
 unfold jSave
 by_cases h0 : J.broken = true
 ·rw [if_pos h0]
  exact ⟨h, rfl, hb, hu, Nat.le_succ _, Nat.le_refl _⟩
 ·rw [if_neg h0]
  have hf : D.failed = false := by cases e : D.failed with | false => rfl | true => exact absurd (hb e) h0
  by_cases h1 : half D < pagesN s.length
  ·rw [if_pos h1]
   exact ⟨h, rfl, hb, hu, Nat.le_succ _, Nat.le_refl _⟩
  ·rw [if_neg h1]
   have hu2 : 0 + pagesN s.length ≤ half D := by omega
   have hps := jPut_sound h hf (J.turn + 1) 0 0 s (by omega) (by omega) hu2
   have hcd := dWrites_code h.ok hf _ (putAll_ok h.len h.top (J.turn + 1) 0 0 s (by omega) (by omega) hu2)
   change (jPut D (J.turn + 1) 0 0 s).2 = 0 ∧ (jPut D (J.turn + 1) 0 0 s).1.failed = false ∨ (jPut D (J.turn + 1) 0 0 s).2 = 10 ∧ _ at hcd
   have key : Sound (jSaved D (J.turn + 1) s).1 ∧ (jSaved D (J.turn + 1) s).1.pages.length = D.pages.length ∧ ((jSaved D (J.turn + 1) s).2 = 0 → (jSaved D (J.turn + 1) s).1.failed = false) := by
    unfold jSaved
    rcases hcd with ⟨e1, e2⟩ | ⟨e1, e2⟩
    ·rw [if_pos e1]
     have hll : ∀ x ∈ [((J.turn + 1) % 2, hdrPage (J.turn + 1))], x.1 < (jPut D (J.turn + 1) 0 0 s).1.pages.length ∧ x.2.length = 128 := by
      intro x hx
      obtain rfl : x = ((J.turn + 1) % 2, hdrPage (J.turn + 1)) := by simpa using hx
      exact ⟨by have := hps.1.len; dsimp only; omega, hdrPage_len _ (by omega)⟩
     have hws := dWrites_sound hps.1 e2 _ hll (by simp)
     have hc2 := dWrites_code hps.1.ok e2 _ hll
     refine ⟨hws.1, hws.2.trans hps.2, fun e => ?_⟩
     rcases hc2 with ⟨_, e3⟩ | ⟨e3, _⟩
     ·exact e3
     ·omega
    ·rw [if_neg (by omega)]
     exact ⟨hps.1, hps.2, fun e => by omega⟩
   by_cases h2 : (jSaved D (J.turn + 1) s).2 = 0
   ·rw [if_pos h2]
    refine ⟨key.1, key.2.1, fun e => ?_, by show pagesN s.length ≤ _; omega, Nat.le_refl _, Nat.zero_le _⟩
    have := key.2.2 h2
    change (jSaved D (J.turn + 1) s).1.failed = true at e
    rw [e] at this; cases this
   ·rw [if_neg h2]
    exact ⟨key.1, key.2.1, fun _ => rfl, hu, Nat.le_succ _, Nat.le_refl _⟩
end Go.Proofs.YtpadgkkeihhneaaGreat
