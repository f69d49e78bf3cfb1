/- A journal on a disk that fails and crashes: plain law. -/
import Derived.Test.YtpadgkkeihhneaaGreatA37
namespace Go.Proofs.YtpadgkkeihhneaaGreat
set_option maxRecDepth 100000
set_option linter.unusedSimpArgs false
set_option linter.unusedVariables false
set_option linter.unusedVariables false
set_option linter.unusedSimpArgs false

/-! ### Writes with a fuse -/
theorem settle_len (f : Nat → Int) (i : Nat) (ws : List (Nat × List UInt8)) (ps : List (List UInt8)) : (settleFrom f i ws ps).length = ps.length := by
  induction ws generalizing i ps with
  | nil => rfl
  | cons w ws ih => show (settleFrom f (i + 1) ws (ps.set w.1 _)).length = _; rw [ih, List.length_set]
/-- A disk between two calls. -/
structure Sound (D : DS) : Prop where
  ok : D.Ok
  len : 8 ≤ D.pages.length
  top : D.pages.length ≤ 4096
  pend : D.failed = false → D.pend = []
  few : D.pend.length ≤ 5000
theorem dSync_out {D : DS} (hok : D.Ok) (hf : D.failed = false) :
    (∃ f, -1 ≤ f ∧ f ≤ 9223372036854775807 ∧ (D.fuse = -1 → f = -1) ∧ dSync D = (⟨setAll D.pages D.pend, [], f, false⟩, 0)) ∨ (D.fuse = 0 ∧ dSync D = (⟨D.pages, D.pend, 0, true⟩, 10)) := by
  have hs := settle_setAll D.pend 0 D.pages hok.pages hok.pend
  have hu := hok.fuse
  obtain ⟨ps, pd, fz, fl⟩ := D
  dsimp only at hf hs hu ⊢
  subst hf
  unfold dSync dBurn
  dsimp only
  rw [if_neg (by simp)]
  by_cases h0 : fz = 0
  · refine .inr ⟨h0, ?_⟩
    rw [if_pos h0]
    dsimp only
    rw [if_neg (by decide), h0]
  · rw [if_neg h0]
    by_cases h1 : 0 < fz
    · rw [if_pos h1]
      dsimp only
      rw [if_pos rfl]
      exact .inl ⟨fz - 1, by omega, by omega, fun e => by omega, by unfold dSettle; dsimp only; rw [hs]⟩
    · rw [if_neg h1]
      dsimp only
      rw [if_pos rfl]
      exact .inl ⟨fz, by omega, by omega, fun e => e, by unfold dSettle; dsimp only; rw [hs]⟩
theorem dWrites_out (l : List (Nat × List UInt8)) (D : DS) (hok : D.Ok) (hf : D.failed = false) (hl : ∀ x ∈ l, x.1 < D.pages.length ∧ x.2.length = 128) :
    (∃ f, -1 ≤ f ∧ f ≤ 9223372036854775807 ∧ (D.fuse = -1 → f = -1) ∧ dWrites D l = (⟨setAll D.pages (D.pend ++ l), [], f, false⟩, 0)) ∨ (D.fuse ≠ -1 ∧ ∃ k, k ≤ l.length ∧ dWrites D l = (⟨D.pages, D.pend ++ l.take k, 0, true⟩, 10)) := by
  induction l generalizing D with
  | nil =>
    have := dSync_out hok hf
    rw [List.append_nil]
    rcases this with h | ⟨h0, h⟩
    · exact .inl h
    · exact .inr ⟨by omega, 0, Nat.le_refl _, by rw [List.take_nil, List.append_nil]; exact h⟩
  | cons x l ih =>
    obtain ⟨n, b⟩ := x
    have hx := hl (n, b) (by simp)
    have hu := hok.fuse
    obtain ⟨ps, pd, fz, fl⟩ := D
    dsimp only at hf hx hu hl ⊢
    subst hf
    have ht : thereB (⟨ps, pd, fz, false⟩ : DS) (n : Int) = true := (thereB_iff _ n).2 (by have := hx.1; dsimp only; omega)
    have e : dWrite (⟨ps, pd, fz, false⟩ : DS) n b = if fz = 0 then (⟨ps, pd, 0, true⟩, 10) else (⟨ps, pd ++ [(n, b)], if 0 < fz then fz - 1 else fz, false⟩, 0) := by
      unfold dWrite dBurn
      dsimp only
      rw [if_neg (by simp), if_neg (by simpa using hx.2), if_neg (by rw [ht]; simp)]
      by_cases h0 : fz = 0
      · rw [if_pos h0, if_pos h0]
        dsimp only
        rw [if_neg (by decide), h0]
      · rw [if_neg h0, if_neg h0]
        by_cases h1 : 0 < fz
        · rw [if_pos h1, if_pos h1]; rfl
        · rw [if_neg h1, if_neg h1]; rfl
    unfold dWrites
    rw [e]
    by_cases h0 : fz = 0
    · rw [if_pos h0]
      dsimp only
      rw [if_neg (by decide)]
      exact .inr ⟨by omega, 0, by omega, by rw [List.take_zero, List.append_nil]⟩
    · rw [if_neg h0]
      dsimp only
      rw [if_pos rfl]
      have hok2 : (⟨ps, pd ++ [(n, b)], if 0 < fz then fz - 1 else fz, false⟩ : DS).Ok := by
        refine ⟨hok.pages, fun w hw => ?_, ?_⟩
        · rcases List.mem_append.1 hw with hw | hw
          · exact hok.pend w hw
          · obtain rfl : w = (n, b) := by simpa using hw
            exact hx
        · dsimp only; split <;> omega
      rcases ih _ hok2 rfl (fun y hy => hl y (by simp [hy])) with ⟨f, h1, h2, h3, h4⟩ | ⟨h3, k, hk, h4⟩
      · refine .inl ⟨f, h1, h2, fun e1 => h3 (by dsimp only; rw [if_neg (by omega)]; exact e1), ?_⟩
        rw [h4]
        simp
      · refine .inr ⟨fun e1 => h3 (by dsimp only; rw [if_neg (by omega)]; exact e1), k + 1, by simp; omega, ?_⟩
        rw [h4]
        simp
theorem setAll_ok (l : List (Nat × List UInt8)) (ps : List (List UInt8)) (hp : ∀ p ∈ ps, p.length = 128) (hl : ∀ x ∈ l, x.2.length = 128) : ∀ p ∈ setAll ps l, p.length = 128 := by
  induction l generalizing ps with
  | nil => exact hp
  | cons x l ih =>
    refine ih _ (fun p hp' => ?_) (fun y hy => hl y (by simp [hy]))
    rcases List.mem_or_eq_of_mem_set hp' with h | h
    · exact hp p h
    · rw [h]; exact hl x (by simp)
theorem dWrites_sound {D : DS} (h : Sound D) (hf : D.failed = false) (l : List (Nat × List UInt8)) (hl : ∀ x ∈ l, x.1 < D.pages.length ∧ x.2.length = 128) (h5 : l.length ≤ 5000) :
    Sound (dWrites D l).1 ∧ (dWrites D l).1.pages.length = D.pages.length := by
  rcases dWrites_out l D h.ok hf hl with ⟨f, h1, h2, _, h4⟩ | ⟨_, k, hk, h4⟩
  · rw [h4]
    refine ⟨⟨⟨?_, (fun w hw => by cases hw), ⟨h1, h2⟩⟩, by dsimp only; rw [setAll_len]; exact h.len, by dsimp only; rw [setAll_len]; exact h.top, fun _ => rfl, by simp⟩, setAll_len _ _⟩
    refine setAll_ok _ _ h.ok.pages fun x hx => ?_
    rcases List.mem_append.1 hx with hx | hx
    · exact (h.ok.pend x hx).2
    · exact (hl x hx).2
  · rw [h4, h.pend hf, List.nil_append]
    refine ⟨⟨⟨h.ok.pages, fun w hw => hl w (List.mem_of_mem_take hw), by dsimp only; omega⟩, h.len, h.top, fun e => by simp at e, by dsimp only; rw [List.length_take]; omega⟩, rfl⟩
theorem putAll_ok {D : DS} (h8 : 8 ≤ D.pages.length) (h4 : D.pages.length ≤ 4096) (t i a : Nat) (s : List UInt8) (ht : t ≤ 1099511629000) (hi : i ≤ 2 ^ 40) (ha : a + pagesN s.length ≤ half D) :
    ∀ x ∈ at_ (first D t + a) (prts t i s), x.1 < D.pages.length ∧ x.2.length = 128 := by
  have hf := first_hiG D t h8
  have hh : half D ≤ 4096 := by unfold half; omega
  intro x hx
  obtain ⟨k, hk, rfl⟩ := (at_mem _ _ _).1 hx
  rw [prts_length] at hk
  refine ⟨by dsimp only; omega, ?_⟩
  dsimp only
  rw [prts_getD t i s k hk]
  refine prtPage_len _ ⟨ht, hi, ?_, ?_, ?_⟩
  · show k < 65536; omega
  · show pagesN s.length < 65536; omega
  · show ((s.drop (k * 96)).take 96).length ≤ 96
    rw [List.length_take]; omega
theorem at_length (a : Nat) (l : List (List UInt8)) : (at_ a l).length = l.length := by unfold at_; rw [List.length_map, List.length_range]
theorem jPut_sound {D : DS} (h : Sound D) (hf : D.failed = false) (t i a : Nat) (s : List UInt8) (ht : t ≤ 1099511629000) (hi : i ≤ 2 ^ 40) (ha : a + pagesN s.length ≤ half D) :
    Sound (jPut D t i a s).1 ∧ (jPut D t i a s).1.pages.length = D.pages.length :=
  dWrites_sound h hf _ (putAll_ok h.len h.top t i a s ht hi ha) (by rw [at_length, prts_length]; have := h.top; unfold half at ha; omega)
theorem dWrites_code {D : DS} (h : D.Ok) (hf : D.failed = false) (l : List (Nat × List UInt8)) (hl : ∀ x ∈ l, x.1 < D.pages.length ∧ x.2.length = 128) : ((dWrites D l).2 = 0 ∧ (dWrites D l).1.failed = false) ∨ ((dWrites D l).2 = 10 ∧ (dWrites D l).1.failed = true) := by
  rcases dWrites_out l D h hf hl with ⟨f, _, _, _, e⟩ | ⟨_, k, _, e⟩ <;> rw [e]
  · exact .inl ⟨rfl, rfl⟩
  · exact .inr ⟨rfl, rfl⟩

/-! ### Reading what was found -/
/-- The disk has the journal; behind its blocks no further one begins. -/
structure Found (D : DS) (J : JS) : Prop where
  ok : D.Ok
  len : 8 ≤ D.pages.length
  top : D.pages.length ≤ 4096
  nf : D.failed = false
  pend : D.pend = []
  unb : J.broken = false
  zero : J.turn = 0 → J = js0
  turn : J.turn < 2 ^ 39
  h0 : J.turn % 2 = 0 → hdrOf 0 (content D 0) = J.turn ∧ (hdrOf 1 (content D 1) < J.turn ∨ J.turn = 0 ∧ hdrOf 1 (content D 1) = 0)
  h1 : J.turn % 2 = 1 → hdrOf 1 (content D 1) = J.turn ∧ hdrOf 0 (content D 0) < J.turn
  lay : 0 < J.turn → Lay D J.turn 0 0 (J.state :: J.records) J.used
  new : ∀ n, 2 ≤ n → n < D.pages.length → ∀ x, prtOf (content D n) = some x → x.turn ≤ J.turn ∨ x.turn = J.turn + 1 ∧ x.index = 0
  stop : 0 < J.turn → blk D J.turn (J.records.length + 1) J.used = none
/-- Behind its blocks no part of a record stands. -/
structure Live (D : DS) (J : JS) : Prop extends Found D J where
  clean : 0 < J.turn → ∀ k, J.used ≤ k → k < half D → ∀ x, prtOf (content D (first D J.turn + k)) = some x → x.turn = J.turn → x.index = 0
theorem blk_not (D : DS) (t i u : Nat) (h : u < half D → ∀ x, prtOf (content D (first D t + u)) = some x → x.turn = t → x.index ≠ i) : blk D t i u = none := by
  unfold blk
  cases hf : half D - u with
  | zero => rfl
  | succ f =>
    unfold blkF
    rw [if_neg (by omega)]
    have := h (by omega)
    cases hx : prtOf (content D (first D t + u + 0)) with
    | none => rfl
    | some x =>
      show (if _ then _ else _) = _
      rw [if_neg fun hc => this x hx hc.1 hc.2.1]
theorem Lay.lenA {D : DS} {t i a : Nat} {l : List (List UInt8)} {u : Nat} (h : Lay D t i a l u) : a + l.length ≤ u := by
  induction l generalizing i a with
  | nil => exact Nat.le_of_eq h
  | cons s l ih => have := ih h.2.2; have := pagesN_posG s.length; rw [List.length_cons]; omega
theorem Found.used {D : DS} {J : JS} (h : Found D J) : J.used ≤ half D ∧ J.records.length ≤ half D := by
  by_cases h0 : J.turn = 0
  · rw [h.zero h0]; exact ⟨Nat.zero_le _, Nat.zero_le _⟩
  · have hl := h.lay (by omega)
    have := hl.used_le
    have h2 := hl.lenA
    rw [List.length_cons] at h2
    omega
end Go.Proofs.YtpadgkkeihhneaaGreat
/- What a crash leaves of a journal: plain law. -/
namespace Go.Proofs.YtpadgkkeihhneaaGreat
set_option maxRecDepth 100000
set_option linter.unusedSimpArgs false
set_option linter.unusedVariables false
set_option linter.unusedVariables false
set_option linter.unusedSimpArgs false

theorem zturn : (rd0 (List.replicate 128 0)).2 = 0 := by decide +kernel
theorem prtOf_turn0 {x : Prt} (h : prtOf (List.replicate 128 0) = some x) : x.turn = 0 := by
  unfold prtOf at h
  split at h
  · injection h with h
    rw [← h]
    exact zturn
  · cases h
theorem Found.sound {D : DS} {J : JS} (h : Found D J) : Sound D := ⟨h.ok, h.len, h.top, fun _ => h.pend, by rw [h.pend]; exact Nat.zero_le _⟩
/-- Another disk with the same journal. -/
theorem Found.move {D D' : DS} {J : JS} (h : Found D J) (ok : D'.Ok) (hl : D'.pages.length = D.pages.length) (nf : D'.failed = false) (hp : D'.pend = [])
    (hh : ∀ i, i < 2 → hdrOf i (content D' i) = hdrOf i (content D i) ∨ i ≠ J.turn % 2 ∧ hdrOf i (content D' i) = 0)
    (hk : ∀ k, k < J.used → content D' (first D J.turn + k) = content D (first D J.turn + k))
    (new : ∀ n, 2 ≤ n → n < D'.pages.length → ∀ x, prtOf (content D' n) = some x → x.turn ≤ J.turn ∨ x.turn = J.turn + 1 ∧ x.index = 0)
    (stop : 0 < J.turn → blk D' J.turn (J.records.length + 1) J.used = none) : Found D' J := by
  refine ⟨ok, by rw [hl]; exact h.len, by rw [hl]; exact h.top, nf, hp, h.unb, h.zero, h.turn, fun hm => ?_, fun hm => ?_, fun h0 => (h.lay h0).keep hl hk, new, stop⟩
  · obtain ⟨a, b⟩ := h.h0 hm
    have e0 := hh 0 (by omega)
    have e1 := hh 1 (by omega)
    omega
  · obtain ⟨a, b⟩ := h.h1 hm
    have e0 := hh 0 (by omega)
    have e1 := hh 1 (by omega)
    omega
/-! ### Erasing -/
theorem clean_stale {D : DS} {t u : Nat} (h : stale D t u = false) : Clean D t u := by
  intro k h1 h2 x hx
  unfold stale at h
  rw [List.any_eq_false] at h
  have := h (k - u) (List.mem_range.2 (by omega))
  rw [show first D t + u + (k - u) = first D t + k by omega, hx] at this
  simpa using this
def zeros (l : List Nat) : List (Nat × List UInt8) := l.map (·, List.replicate 128 0)
theorem dirty_mem {D : DS} {t u n : Nat} : n ∈ dirty D t u ↔ (∃ k, k < half D - u ∧ n = first D t + u + k) ∧ content D n ≠ List.replicate 128 0 := by
  unfold dirty
  rw [List.mem_filter, List.mem_map]
  constructor
  · rintro ⟨⟨k, hk, rfl⟩, h⟩
    exact ⟨⟨k, List.mem_range.1 hk, rfl⟩, by simpa using h⟩
  · rintro ⟨⟨k, hk, rfl⟩, h⟩
    exact ⟨⟨k, List.mem_range.2 hk, rfl⟩, by simpa using h⟩
theorem dirty_len (D : DS) (t u : Nat) : (dirty D t u).length ≤ half D := by
  unfold dirty
  refine Nat.le_trans (List.length_filter_le _ _) ?_
  rw [List.length_map, List.length_range]; omega
theorem zeros_ok {D : DS} (h8 : 8 ≤ D.pages.length) (t u : Nat) (hu : u ≤ half D) : ∀ x ∈ zeros (dirty D t u), x.1 < D.pages.length ∧ x.2.length = 128 := by
  have hf := first_hiG D t h8
  intro x hx
  obtain ⟨n, hn, rfl⟩ := List.mem_map.1 hx
  obtain ⟨⟨k, hk, rfl⟩, _⟩ := dirty_mem.1 hn
  exact ⟨by dsimp only; omega, by simp⟩
theorem dirty_pair (D : DS) (t u : Nat) : (zeros (dirty D t u)).Pairwise (fun x y => x.1 ≠ y.1) := by
  unfold zeros dirty
  rw [List.pairwise_map]
  refine List.Pairwise.filter _ ?_
  rw [List.pairwise_map]
  exact List.Pairwise.imp (fun h => by omega) List.pairwise_lt_range
/-- Pages behind the last block are zero, all else is as it was. -/
structure Wiped (D D' : DS) (t u : Nat) : Prop where
  len : D'.pages.length = D.pages.length
  nf : D'.failed = false
  pend : D'.pend = []
  same : ∀ n, (n < first D t + u ∨ first D t + half D ≤ n) → content D' n = content D n
  zero : ∀ k, u ≤ k → k < half D → content D' (first D t + k) = List.replicate 128 0
theorem wiped_set {D : DS} (hp : D.pend = []) (h8 : 8 ≤ D.pages.length) (t u : Nat) (hu : u ≤ half D) (f : Int) : Wiped D ⟨setAll D.pages (zeros (dirty D t u)), [], f, false⟩ t u := by
  refine ⟨setAll_len _ _, rfl, rfl, fun n hn => ?_, fun k h1 h2 => ?_⟩
  · rw [content_calm rfl, content_calm hp]
    refine setAll_other _ _ _ fun x hx => ?_
    obtain ⟨m, hm, rfl⟩ := List.mem_map.1 hx
    obtain ⟨⟨k, hk, rfl⟩, _⟩ := dirty_mem.1 hm
    dsimp only
    omega
  · rw [content_calm rfl]
    show (setAll D.pages (zeros (dirty D t u))).getD (first D t + k) [] = _
    by_cases hd : first D t + k ∈ dirty D t u
    · have hm : (first D t + k, List.replicate 128 0) ∈ zeros (dirty D t u) := List.mem_map.2 ⟨_, hd, rfl⟩
      exact setAll_at _ D.pages (dirty_pair D t u) _ hm (zeros_ok h8 t u hu _ hm).1
    · rw [setAll_other _ _ _ (fun x hx => by
        obtain ⟨m, hm, rfl⟩ := List.mem_map.1 hx
        intro e
        dsimp only at e
        exact hd (e ▸ hm)), ← content_calm hp]
      by_cases hc : content D (first D t + k) = List.replicate 128 0
      · exact hc
      · exact absurd (dirty_mem.2 ⟨⟨k - u, by omega, by omega⟩, hc⟩) hd
theorem erase_out {D : DS} (hs : Sound D) (hf : D.failed = false) (t u : Nat) (hu : u ≤ half D) :
    (∃ D', erase D t u = (D', 0) ∧ (D' = D ∧ Clean D t u ∨ Wiped D D' t u ∧ Sound D') ∧ (D.fuse = -1 → D'.fuse = -1)) ∨ (D.fuse ≠ -1 ∧ ∃ L, (∀ x ∈ L, x.1 < D.pages.length ∧ x.2.length = 128) ∧ L.length ≤ 5000 ∧ erase D t u = (⟨D.pages, L, 0, true⟩, 10)) := by
  unfold erase
  cases hst : stale D t u with
  | false => exact .inl ⟨D, rfl, .inl ⟨rfl, clean_stale hst⟩, id⟩
  | true =>
    have hz := zeros_ok hs.len t u hu
    have hd := dirty_len D t u
    have hh : half D ≤ 4096 := by have := hs.top; unfold half; omega
    have h5 : (zeros (dirty D t u)).length ≤ 5000 := by unfold zeros; rw [List.length_map]; omega
    have hso := dWrites_sound hs hf _ hz h5
    rw [if_pos rfl]
    change (∃ D', dWrites D (zeros (dirty D t u)) = (D', 0) ∧ _) ∨ _ ∧ ∃ L, _ ∧ _ ∧ dWrites D (zeros (dirty D t u)) = _
    rcases dWrites_out _ D hs.ok hf hz with ⟨f, h1, h2, h3, e⟩ | ⟨h3, k, hk, e⟩
    · rw [hs.pend hf, List.nil_append] at e
      rw [e] at hso
      exact .inl ⟨_, e, .inr ⟨wiped_set (hs.pend hf) hs.len t u hu f, hso.1⟩, h3⟩
    · rw [hs.pend hf, List.nil_append] at e
      exact .inr ⟨h3, _, fun x hx => hz x (List.mem_of_mem_take hx), by rw [List.length_take]; omega, e⟩
theorem Wiped.live {D D' : DS} {J : JS} (h : Found D J) (h0 : 0 < J.turn) (k : Wiped D D' J.turn J.used) (ok : D'.Ok) : Live D' J := by
  have hz : ∀ n, J.used ≤ n → n < half D → ∀ x, prtOf (content D' (first D J.turn + n)) = some x → x.turn = 0 := fun n h1 h2 x hx => by
    rw [k.zero n h1 h2] at hx
    exact prtOf_turn0 hx
  have hf := first_lo D J.turn
  have hcl : ∀ n, J.used ≤ n → n < half D' → ∀ x, prtOf (content D' (first D' J.turn + n)) = some x → x.turn = J.turn → x.index = 0 := fun n h1 h2 x hx he => by
    rw [half_eq k.len] at h2
    rw [first_eq k.len] at hx
    have := hz n h1 h2 x hx
    omega
  refine ⟨h.move ok k.len k.nf k.pend (fun i hi => .inl (by rw [k.same i (by omega)])) (fun i hi => k.same _ (by omega)) (fun n h2 hn x hx => ?_) (fun _ => blk_not _ _ _ _ fun hu x hx he => ?_), fun _ => hcl⟩
  · by_cases hi : n < first D J.turn + J.used ∨ first D J.turn + half D ≤ n
    · rw [k.same n hi] at hx
      exact h.new n h2 (by rw [← k.len]; exact hn) x hx
    · have := hz (n - first D J.turn) (by omega) (by omega) x (by rwa [show first D J.turn + (n - first D J.turn) = n by omega])
      omega
  · have := hcl J.used (Nat.le_refl _) hu x hx he
    omega
theorem Found.erase_out {D : DS} {J : JS} (h : Found D J) (h0 : 0 < J.turn) :
    (∃ D', erase D J.turn J.used = (D', 0) ∧ Live D' J ∧ (D.fuse = -1 → D'.fuse = -1)) ∨ (D.fuse ≠ -1 ∧ ∃ L, (∀ x ∈ L, x.1 < D.pages.length ∧ x.2.length = 128) ∧ L.length ≤ 5000 ∧ erase D J.turn J.used = (⟨D.pages, L, 0, true⟩, 10)) := by
  rcases Go.Proofs.YtpadgkkeihhneaaGreat.erase_out h.sound h.nf J.turn J.used h.used.1 with ⟨D', e, hw, hfz⟩ | hr
  · refine .inl ⟨D', e, ?_, hfz⟩
    rcases hw with ⟨rfl, hc⟩ | ⟨hw, hs⟩
    · exact ⟨h, fun _ k h1 h2 x hx he => absurd he (hc k h1 h2 x hx)⟩
    · exact hw.live h h0 hs.ok
  · exact .inr hr
/-! ### Crashes -/
/-- A pending write of which a part survives that reads as a page. -/
def torn (D : DS) (s : List Int) (x : Nat × List UInt8) : Bool :=
  !(content (dCrash D s) x.1 == x.2 || content (dCrash D s) x.1 == D.pages.getD x.1 []) && (prtOk (content (dCrash D s) x.1) || decide (x.1 < 2) && decide (0 < hdrOf x.1 (content (dCrash D s) x.1)))
/-- What Coincides reports. -/
def coin (D : DS) (s : List Int) : Bool := D.pend.any (torn D s)
/-- What a crash without coincidence leaves of writes to a disk. -/
structure Mix (D D' : DS) (L : List (Nat × List UInt8)) : Prop where
  ok : D'.Ok
  len : D'.pages.length = D.pages.length
  nf : D'.failed = false
  pend : D'.pend = []
  fuse : D'.fuse = -1
  other : ∀ n, (∀ x ∈ L, x.1 ≠ n) → content D' n = D.pages.getD n []
  each : ∀ x ∈ L, content D' x.1 = x.2 ∨ content D' x.1 = D.pages.getD x.1 [] ∨ prtOf (content D' x.1) = none ∧ (x.1 < 2 → hdrOf x.1 (content D' x.1) = 0)
theorem settle_zero (i : Nat) (ws : List (Nat × List UInt8)) (ps : List (List UInt8)) (hw : ∀ x ∈ ws, x.1 < ps.length) : settleFrom (fun k => ([] : List Int).getD k 0) i ws ps = ps := by
  induction ws generalizing i ps with
  | nil => rfl
  | cons w ws ih =>
    have e : ps.set w.1 (mixed (ps.getD w.1 []) w.2 (([] : List Int).getD i 0)) = ps := by
      have h1 := hw w (by simp)
      have e1 : mixed (ps.getD w.1 []) w.2 (([] : List Int).getD i 0) = ps.getD w.1 [] := by
        unfold mixed
        have : (min (max (([] : List Int).getD i 0) 0) 128).toNat = 0 := by simp; omega
        rw [this]; simp
      rw [e1, List.getD_eq_getElem?_getD, List.getElem?_eq_getElem h1]
      exact List.set_getElem_self h1
    show settleFrom _ (i + 1) ws (ps.set w.1 (mixed (ps.getD w.1 []) w.2 (([] : List Int).getD i 0))) = ps
    rw [e]
    exact ih (i + 1) ps (fun x hx => hw x (by simp [hx]))
theorem crash_nil {D : DS} (hok : D.Ok) : dCrash D [] = ⟨D.pages, [], -1, false⟩ := by
  unfold dCrash dSettle
  dsimp only
  rw [settle_zero 0 D.pend D.pages (fun x hx => (hok.pend x hx).1)]
/-- A crash of a disk on which nothing waits. -/
theorem crash_none {D : DS} (h : D.pend = []) (s : List Int) : dCrash D s = ⟨D.pages, [], -1, false⟩ := by
  unfold dCrash dSettle
  dsimp only
  rw [h]
  rfl
/-- Another fuse. -/
theorem Found.other {D D' : DS} {J : JS} (h : Found D J) (h1 : D'.pages = D.pages) (h2 : D'.pend = []) (h3 : D'.failed = false) (h4 : D'.Ok) : Found D' J := by
  have hl : D'.pages.length = D.pages.length := by rw [h1]
  have hc : ∀ n, content D' n = content D n := fun n => by rw [content_calm h2, content_calm h.pend, h1]
  refine h.move h4 hl h3 h2 (fun i hi => .inl (by rw [hc])) (fun k hk => hc _) (fun n h5 hn x hx => h.new n h5 (by rw [← hl]; exact hn) x (by rwa [hc] at hx)) (fun h0 => ?_)
  rw [← h.stop h0]
  unfold blk
  rw [half_eq hl]
  have : ∀ (f p q : Nat) (s : List UInt8), blkF D' J.turn (J.records.length + 1) J.used f p q s = blkF D J.turn (J.records.length + 1) J.used f p q s := by
    intro f
    induction f with
    | zero => intros; rfl
    | succ f ih =>
      intro p q s
      unfold blkF
      rw [half_eq hl, first_eq hl, hc]
      simp only [ih]
  exact this _ _ _ _
theorem Live.other {D D' : DS} {J : JS} (h : Live D J) (h1 : D'.pages = D.pages) (h2 : D'.pend = []) (h3 : D'.failed = false) (h4 : D'.Ok) : Live D' J := by
  have hl : D'.pages.length = D.pages.length := by rw [h1]
  have hc : ∀ n, content D' n = content D n := fun n => by rw [content_calm h2, content_calm h.pend, h1]
  exact ⟨h.toFound.other h1 h2 h3 h4, fun h0 k hk1 hk2 x hx => h.clean h0 k hk1 (by rwa [half_eq hl] at hk2) x (by rwa [hc, first_eq hl] at hx)⟩
end Go.Proofs.YtpadgkkeihhneaaGreat
/- What Append and Save leave when the disk fails: plain law. -/
namespace Go.Proofs.YtpadgkkeihhneaaGreat
set_option maxRecDepth 100000
set_option linter.unusedSimpArgs false
set_option linter.unusedVariables false
set_option linter.unusedVariables false
set_option linter.unusedSimpArgs false

/-! ### What a call leaves -/
/-- What a call leaves: done; refused; or the disk has failed, and a crash without coincidence leaves the one or the other. -/
inductive Left (D : DS) (J J2 : JS) (r : DS × JS × Int) : Prop where
  | done (h0 : r.2.2 = 0) (h1 : r.2.1 = J2) (h2 : Live r.1 J2)
  | refused (h0 : r.2.2 ≠ 0) (h1 : r.1 = D) (h2 : r.2.1 = J)
  | failed (h0 : r.2.2 ≠ 0) (h1 : r.2.1 = { J with broken := true }) (h2 : r.1.failed = true) (h3 : Sound r.1) (h4 : ∀ s, coin r.1 s = false → Found (dCrash r.1 s) J ∨ Found (dCrash r.1 s) J2)
end Go.Proofs.YtpadgkkeihhneaaGreat
/- Steps of a law on a journal: plain law. -/
namespace Go.Proofs.YtpadgkkeihhneaaGreat
set_option maxRecDepth 100000
set_option linter.unusedSimpArgs false
set_option linter.unusedVariables false
set_option linter.unusedVariables false
set_option linter.unusedSimpArgs false

/-- What the law's open does: a failed disk crashes first; if Open fails, the disk crashes and Open runs again. -/
def reopen (D : DS) : JS × DS × Int :=
  if (jOpen (if D.failed then dCrash D [] else D)).2.2 = 0 then jOpen (if D.failed then dCrash D [] else D)
  else jOpen (dCrash (jOpen (if D.failed then dCrash D [] else D)).2.1 [])
/-- The disk has failed; a crash without coincidence leaves a journal. -/
structure Dead (D : DS) (k : Nat) : Prop where
  sound : Sound D
  failed : D.failed = true
  left : ∀ s, coin D s = false → ∃ J, Found (dCrash D s) J ∧ J.turn ≤ k
/-- Between two steps. -/
def Inv (D : DS) (J : JS) (k : Nat) : Prop := Live D J ∧ J.turn ≤ k ∨ Dead D k ∧ J.broken = true
theorem Live.sound {D : DS} {J : JS} (h : Live D J) : Sound D := h.toFound.sound
theorem Inv.sound {D : DS} {J : JS} {k : Nat} (h : Inv D J k) : Sound D := by
  rcases h with ⟨h, _⟩ | ⟨h, _⟩
  · exact h.sound
  · exact h.sound
theorem Inv.mono {D : DS} {J : JS} {k k' : Nat} (h : Inv D J k) (hk : k ≤ k') : Inv D J k' := by
  rcases h with ⟨h, h2⟩ | ⟨h, h2⟩
  · exact .inl ⟨h, by omega⟩
  · exact .inr ⟨⟨h.sound, h.failed, fun s hs => by obtain ⟨J', h3, h4⟩ := h.left s hs; exact ⟨J', h3, by omega⟩⟩, h2⟩
theorem fail_ok {D : DS} (h : D.Ok) (n : Int) (hn : n ≤ 9223372036854775807) : (dFailAfter D n).Ok := ⟨h.pages, h.pend, by unfold dFailAfter; dsimp only; omega⟩
theorem Live.crash {D : DS} {J : JS} (h : Live D J) (s : List Int) : Live (dCrash D s) J := by
  refine h.other ?_ rfl rfl (dCrash_ok h.ok s)
  rw [crash_none h.pend]
/-! ### Any contents of the disk -/
theorem sound_fail {D : DS} (h : Sound D) (n : Int) (hn : n ≤ 9223372036854775807) : Sound (dFailAfter D n) := ⟨fail_ok h.ok n hn, h.len, h.top, h.pend, h.few⟩
theorem sound_crash {D : DS} (h : Sound D) (s : List Int) : Sound (dCrash D s) ∧ (dCrash D s).pages.length = D.pages.length := by
  have hl : (dCrash D s).pages.length = D.pages.length := settle_len _ _ _ _
  exact ⟨⟨dCrash_ok h.ok s, by rw [hl]; exact h.len, by rw [hl]; exact h.top, fun _ => rfl, Nat.zero_le _⟩, hl⟩
theorem sound_append {D : DS} {J : JS} (h : Sound D) (hb : D.failed = true → J.broken = true) (ht : J.turn ≤ 1099511628000) (hr : J.records.length ≤ 500000) (hu : J.used ≤ half D) (s : List UInt8) :
    Sound (jAppend D J s).1 ∧ (jAppend D J s).1.pages.length = D.pages.length ∧ ((jAppend D J s).1.failed = true → (jAppend D J s).2.1.broken = true) ∧ (jAppend D J s).2.1.used ≤ half D ∧ (jAppend D J s).2.1.turn = J.turn ∧ (jAppend D J s).2.1.records.length ≤ J.records.length + 1 := by
  unfold jAppend
  by_cases h0 : J.broken = true ∨ J.turn = 0
  · rw [if_pos h0]
    exact ⟨h, rfl, hb, hu, rfl, Nat.le_succ _⟩
  · rw [if_neg h0]
    have hf : D.failed = false := by cases e : D.failed with | false => rfl | true => exact absurd (.inl (hb e)) h0
    by_cases h1 : jFree D J < pagesN s.length
    · rw [if_pos h1]
      exact ⟨h, rfl, hb, hu, rfl, Nat.le_succ _⟩
    · rw [if_neg h1]
      have hu2 : J.used + pagesN s.length ≤ half D := by unfold jFree at h1; rw [if_neg (fun e => h0 (.inr e))] at h1; omega
      have hps := jPut_sound h hf J.turn (J.records.length + 1) J.used s (by omega) (by omega) hu2
      have hcd := dWrites_code h.ok hf _ (putAll_ok h.len h.top J.turn (J.records.length + 1) J.used s (by omega) (by omega) hu2)
      change (jPut D J.turn (J.records.length + 1) J.used s).2 = 0 ∧ _ ∨ (jPut D J.turn (J.records.length + 1) J.used s).2 = 10 ∧ _ at hcd
      by_cases h2 : (jPut D J.turn (J.records.length + 1) J.used s).2 = 0
      · rw [if_pos h2]
        refine ⟨hps.1, hps.2, fun e => ?_, hu2, rfl, by dsimp only; rw [List.length_append, List.length_singleton]; omega⟩
        rcases hcd with ⟨_, e2⟩ | ⟨e2, _⟩
        · change (jPut D J.turn (J.records.length + 1) J.used s).1.failed = true at e
          change (jPut D J.turn (J.records.length + 1) J.used s).1.failed = false at e2
          rw [e] at e2; cases e2
        · omega
      · rw [if_neg h2]
        exact ⟨hps.1, hps.2, fun _ => rfl, hu, rfl, Nat.le_succ _⟩
theorem sound_save {D : DS} {J : JS} (h : Sound D) (hb : D.failed = true → J.broken = true) (ht : J.turn ≤ 1099511628000) (hr : J.records.length ≤ 500000) (hu : J.used ≤ half D) (s : List UInt8) :
    Sound (jSave D J s).1 ∧ (jSave D J s).1.pages.length = D.pages.length ∧ ((jSave D J s).1.failed = true → (jSave D J s).2.1.broken = true) ∧ (jSave D J s).2.1.used ≤ half D ∧ (jSave D J s).2.1.turn ≤ J.turn + 1 ∧ (jSave D J s).2.1.records.length ≤ J.records.length := by
  unfold jSave
  by_cases h0 : J.broken = true
  · rw [if_pos h0]
    exact ⟨h, rfl, hb, hu, Nat.le_succ _, Nat.le_refl _⟩
  · rw [if_neg h0]
    have hf : D.failed = false := by cases e : D.failed with | false => rfl | true => exact absurd (hb e) h0
    by_cases h1 : half D < pagesN s.length
    · rw [if_pos h1]
      exact ⟨h, rfl, hb, hu, Nat.le_succ _, Nat.le_refl _⟩
    · rw [if_neg h1]
      have hu2 : 0 + pagesN s.length ≤ half D := by omega
      have hps := jPut_sound h hf (J.turn + 1) 0 0 s (by omega) (by omega) hu2
      have hcd := dWrites_code h.ok hf _ (putAll_ok h.len h.top (J.turn + 1) 0 0 s (by omega) (by omega) hu2)
      change (jPut D (J.turn + 1) 0 0 s).2 = 0 ∧ (jPut D (J.turn + 1) 0 0 s).1.failed = false ∨ (jPut D (J.turn + 1) 0 0 s).2 = 10 ∧ _ at hcd
      have key : Sound (jSaved D (J.turn + 1) s).1 ∧ (jSaved D (J.turn + 1) s).1.pages.length = D.pages.length ∧ ((jSaved D (J.turn + 1) s).2 = 0 → (jSaved D (J.turn + 1) s).1.failed = false) := by
        unfold jSaved
        rcases hcd with ⟨e1, e2⟩ | ⟨e1, e2⟩
        · rw [if_pos e1]
          have hll : ∀ x ∈ [((J.turn + 1) % 2, hdrPage (J.turn + 1))], x.1 < (jPut D (J.turn + 1) 0 0 s).1.pages.length ∧ x.2.length = 128 := by
            intro x hx
            obtain rfl : x = ((J.turn + 1) % 2, hdrPage (J.turn + 1)) := by simpa using hx
            exact ⟨by have := hps.1.len; dsimp only; omega, hdrPage_len _ (by omega)⟩
          have hws := dWrites_sound hps.1 e2 _ hll (by simp)
          have hc2 := dWrites_code hps.1.ok e2 _ hll
          refine ⟨hws.1, hws.2.trans hps.2, fun e => ?_⟩
          rcases hc2 with ⟨_, e3⟩ | ⟨e3, _⟩
          · exact e3
          · omega
        · rw [if_neg (by omega)]
          exact ⟨hps.1, hps.2, fun e => by omega⟩
      by_cases h2 : (jSaved D (J.turn + 1) s).2 = 0
      · rw [if_pos h2]
        refine ⟨key.1, key.2.1, fun e => ?_, by show pagesN s.length ≤ _; omega, Nat.le_refl _, Nat.zero_le _⟩
        have := key.2.2 h2
        change (jSaved D (J.turn + 1) s).1.failed = true at e
        rw [e] at this; cases this
      · rw [if_neg h2]
        exact ⟨key.1, key.2.1, fun _ => rfl, hu, Nat.le_succ _, Nat.le_refl _⟩
end Go.Proofs.YtpadgkkeihhneaaGreat
