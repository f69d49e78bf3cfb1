/- A journal on a disk that fails and crashes: plain law. -/
import Derived.Test.YtpadgkkeihhneaaGreatC33
namespace Go.Proofs.YtpadgkkeihhneaaGreat
set_option maxRecDepth 100000
set_option linter.unusedSimpArgs false
set_option linter.unusedVariables false
/-! ### Writes with a fuse -/
theorem settle_len (f : Nat → Int) (i : Nat) (ws : List (Nat × List UInt8)) (ps : List (List UInt8)) : (settleFrom f i ws ps).length = ps.length := by
 induction ws generalizing i ps with
 | nil => rfl
 | cons w ws ih => show (settleFrom f (i + 1) ws (ps.set w.1 _)).length = _; rw [ih, List.length_set]
theorem settle_other (f : Nat → Int) (i : Nat) (ws : List (Nat × List UInt8)) (ps : List (List UInt8)) (n : Nat) (h : ∀ x ∈ ws, x.1 ≠ n) : (settleFrom f i ws ps).getD n [] = ps.getD n [] := by
 induction ws generalizing i ps with
 | nil => rfl
 | cons w ws ih =>
  show (settleFrom f (i + 1) ws (ps.set w.1 _)).getD n [] = _
  rw [ih _ _ (fun y hy => h y (by simp [hy])), List.getD_eq_getElem?_getD, List.getElem?_set_ne (h w (by simp)), List.getD_eq_getElem?_getD]
/-- A disk between two calls. -/
structure Sound (D : DS) : Prop where
 ok : D.Ok
 len : 8 ≤ D.pages.length
 top : D.pages.length ≤ 4096
 pend : D.failed = false → D.pend = []
 few : D.pend.length ≤ 5000
theorem dSync_out {D : DS} (hok : D.Ok) (hf : D.failed = false) :
 (∃ f, -1 ≤ f ∧ f ≤ 9223372036854775807 ∧ (D.fuse = -1 → f = -1) ∧ dSync D = (⟨setAll D.pages D.pend, [], f, false⟩, 0)) ∨ (D.fuse = 0 ∧ dSync D = (⟨D.pages, D.pend, 0, true⟩, 10)) := by
 have hs := settle_setAll D.pend 0 D.pages hok.pages hok.pend
 have hu := hok.fuse
 obtain ⟨ps, pd, fz, fl⟩ := D
 dsimp only at hf hs hu ⊢
 subst hf
 unfold dSync dBurn
 dsimp only
 rw [if_neg (by simp)]
 by_cases h0 : fz = 0
 ·refine .inr ⟨h0, ?_⟩
  rw [if_pos h0]
  dsimp only
  rw [if_neg (by decide), h0]
 ·rw [if_neg h0]
  by_cases h1 : 0 < fz
  ·rw [if_pos h1]
   dsimp only
   rw [if_pos rfl]
   exact .inl ⟨fz - 1, by omega, by omega, fun e => by omega, by unfold dSettle; dsimp only; rw [hs]⟩
  ·rw [if_neg h1]
   dsimp only
   rw [if_pos rfl]
   exact .inl ⟨fz, by omega, by omega, fun e => e, by unfold dSettle; dsimp only; rw [hs]⟩
theorem dWrites_out (l : List (Nat × List UInt8)) (D : DS) (hok : D.Ok) (hf : D.failed = false) (hl : ∀ x ∈ l, x.1 < D.pages.length ∧ x.2.length = 128) :
 (∃ f, -1 ≤ f ∧ f ≤ 9223372036854775807 ∧ (D.fuse = -1 → f = -1) ∧ dWrites D l = (⟨setAll D.pages (D.pend ++ l), [], f, false⟩, 0)) ∨ (D.fuse ≠ -1 ∧ ∃ k, k ≤ l.length ∧ dWrites D l = (⟨D.pages, D.pend ++ l.take k, 0, true⟩, 10)) := by
 induction l generalizing D with
 | nil =>
  have := dSync_out hok hf
  rw [List.append_nil]
  rcases this with h | ⟨h0, h⟩
  ·exact .inl h
  ·exact .inr ⟨by omega, 0, Nat.le_refl _, by rw [List.take_nil, List.append_nil]; exact h⟩
 | cons x l ih =>
  obtain ⟨n, b⟩ := x
  have hx := hl (n, b) (by simp)
  have hu := hok.fuse
  obtain ⟨ps, pd, fz, fl⟩ := D
  dsimp only at hf hx hu hl ⊢
  subst hf
  have ht : thereB (⟨ps, pd, fz, false⟩ : DS) (n : Int) = true := (thereB_iff _ n).2 (by have := hx.1; dsimp only; omega)
  have e : dWrite (⟨ps, pd, fz, false⟩ : DS) n b = if fz = 0 then (⟨ps, pd, 0, true⟩, 10) else (⟨ps, pd ++ [(n, b)], if 0 < fz then fz - 1 else fz, false⟩, 0) := by
   unfold dWrite dBurn
   dsimp only
   rw [if_neg (by simp), if_neg (by simpa using hx.2), if_neg (by rw [ht]; simp)]
   by_cases h0 : fz = 0
   ·rw [if_pos h0, if_pos h0]
    dsimp only
    rw [if_neg (by decide), h0]
   ·rw [if_neg h0, if_neg h0]
    by_cases h1 : 0 < fz
    ·rw [if_pos h1, if_pos h1]; rfl
    ·rw [if_neg h1, if_neg h1]; rfl
  unfold dWrites
  rw [e]
  by_cases h0 : fz = 0
  ·rw [if_pos h0]
   dsimp only
   rw [if_neg (by decide)]
   exact .inr ⟨by omega, 0, by omega, by rw [List.take_zero, List.append_nil]⟩
  ·rw [if_neg h0]
   dsimp only
   rw [if_pos rfl]
   have hok2 : (⟨ps, pd ++ [(n, b)], if 0 < fz then fz - 1 else fz, false⟩ : DS).Ok := by
    refine ⟨hok.pages, fun w hw => ?_, ?_⟩
    ·rcases List.mem_append.1 hw with hw | hw
     ·exact hok.pend w hw
     ·obtain rfl : w = (n, b) := by simpa using hw
      exact hx
    ·dsimp only; split <;> omega
   rcases ih _ hok2 rfl (fun y hy => hl y (by simp [hy])) with ⟨f, h1, h2, h3, h4⟩ | ⟨h3, k, hk, h4⟩
   ·refine .inl ⟨f, h1, h2, fun e1 => h3 (by dsimp only; rw [if_neg (by omega)]; exact e1), ?_⟩
    rw [h4]
    simp
   ·refine .inr ⟨fun e1 => h3 (by dsimp only; rw [if_neg (by omega)]; exact e1), k + 1, by simp; omega, ?_⟩
    rw [h4]
    simp
theorem setAll_ok (l : List (Nat × List UInt8)) (ps : List (List UInt8)) (hp : ∀ p ∈ ps, p.length = 128) (hl : ∀ x ∈ l, x.2.length = 128) : ∀ p ∈ setAll ps l, p.length = 128 := by
 induction l generalizing ps with
 | nil => exact hp
 | cons x l ih =>
  refine ih _ (fun p hp' => ?_) (fun y hy => hl y (by simp [hy]))
  rcases List.mem_or_eq_of_mem_set hp' with h | h
  ·exact hp p h
  ·rw [h]; exact hl x (by simp)
theorem dWrites_sound {D : DS} (h : Sound D) (hf : D.failed = false) (l : List (Nat × List UInt8)) (hl : ∀ x ∈ l, x.1 < D.pages.length ∧ x.2.length = 128) (h5 : l.length ≤ 5000) :
 Sound (dWrites D l).1 ∧ (dWrites D l).1.pages.length = D.pages.length := by
 rcases dWrites_out l D h.ok hf hl with ⟨f, h1, h2, _, h4⟩ | ⟨_, k, hk, h4⟩
 ·rw [h4]
  refine ⟨⟨⟨?_, (fun w hw => by cases hw), ⟨h1, h2⟩⟩, by dsimp only; rw [setAll_len]; exact h.len, by dsimp only; rw [setAll_len]; exact h.top, fun _ => rfl, by simp⟩, setAll_len _ _⟩
  refine setAll_ok _ _ h.ok.pages fun x hx => ?_
  rcases List.mem_append.1 hx with hx | hx
  ·exact (h.ok.pend x hx).2
  ·exact (hl x hx).2
 ·rw [h4, h.pend hf, List.nil_append]
  refine ⟨⟨⟨h.ok.pages, fun w hw => hl w (List.mem_of_mem_take hw), by dsimp only; omega⟩, h.len, h.top, fun e => by simp at e, by dsimp only; rw [List.length_take]; omega⟩, rfl⟩
theorem putAll_ok {D : DS} (h8 : 8 ≤ D.pages.length) (h4 : D.pages.length ≤ 4096) (t i a : Nat) (s : List UInt8) (ht : t ≤ 1099511629000) (hi : i ≤ 2 ^ 40) (ha : a + pagesN s.length ≤ half D) :
 ∀ x ∈ at_ (first D t + a) (prts t i s), x.1 < D.pages.length ∧ x.2.length = 128 := by
 have hf := first_hiG D t h8
 have hh : half D ≤ 4096 := by unfold half; omega
 intro x hx
 obtain ⟨k, hk, rfl⟩ := (at_mem _ _ _).1 hx
 rw [prts_length] at hk
 refine ⟨by dsimp only; omega, ?_⟩
 dsimp only
 rw [prts_getD t i s k hk]
 refine prtPage_len _ ⟨ht, hi, ?_, ?_, ?_⟩
 ·show k < 65536; omega
 ·show pagesN s.length < 65536; omega
 ·show ((s.drop (k * 96)).take 96).length ≤ 96
  rw [List.length_take]; omega
theorem at_length (a : Nat) (l : List (List UInt8)) : (at_ a l).length = l.length := by unfold at_; rw [List.length_map, List.length_range]
theorem jPut_sound {D : DS} (h : Sound D) (hf : D.failed = false) (t i a : Nat) (s : List UInt8) (ht : t ≤ 1099511629000) (hi : i ≤ 2 ^ 40) (ha : a + pagesN s.length ≤ half D) :
 Sound (jPut D t i a s).1 ∧ (jPut D t i a s).1.pages.length = D.pages.length :=
 dWrites_sound h hf _ (putAll_ok h.len h.top t i a s ht hi ha) (by rw [at_length, prts_length]; have := h.top; unfold half at ha; omega)
theorem dWrites_code {D : DS} (h : D.Ok) (hf : D.failed = false) (l : List (Nat × List UInt8)) (hl : ∀ x ∈ l, x.1 < D.pages.length ∧ x.2.length = 128) : ((dWrites D l).2 = 0 ∧ (dWrites D l).1.failed = false) ∨ ((dWrites D l).2 = 10 ∧ (dWrites D l).1.failed = true) := by
 rcases dWrites_out l D h hf hl with ⟨f, _, _, _, e⟩ | ⟨_, k, _, e⟩ <;> rw [e]
 ·exact .inl ⟨rfl, rfl⟩
 ·exact .inr ⟨rfl, rfl⟩
/-! ### Reading what was found -/
theorem blks_lay2 (D : DS) (t : Nat) (l : List (List UInt8)) (u : Nat) (ht : t < 2 ^ 40) (hh : half D ≤ 4096) (f i a : Nat) (hc : blk D t (i + l.length) u = none) (hi : i + l.length < 2 ^ 40) (hf : half D ≤ f + a) (h : Lay D t i a l u) : blks D t f i a = ends a l := by
 induction l generalizing f i a with
 | nil =>
  have e : a = u := h
  subst e
  cases f with
  | zero => rfl
  | succ f =>
   unfold blks
   have hc' : blk D t i a = none := hc
   rw [hc']
   rfl
 | cons s l ih =>
  obtain ⟨h1, h2, h3⟩ := h
  have := pagesN_posG s.length
  rw [List.length_cons] at hi hc
  cases f with
  | zero => omega
  | succ f =>
   unfold blks
   rw [blk_laid D t i a s ht (by omega) hh h2 h1]
   show (s, a + pagesN s.length) :: blks D t f (i + 1) (a + pagesN s.length) = _
   rw [ih f (i + 1) (a + pagesN s.length) (by rwa [show i + 1 + l.length = i + (l.length + 1) by omega]) (by omega) (by omega) h3]
   rfl
/-- The disk has the journal; behind its blocks no further one begins. -/
structure Found (D : DS) (J : JS) : Prop where
 ok : D.Ok
 len : 8 ≤ D.pages.length
 top : D.pages.length ≤ 4096
 nf : D.failed = false
 pend : D.pend = []
 unb : J.broken = false
 zero : J.turn = 0 → J = js0
 turn : J.turn < 2 ^ 39
 h0 : J.turn % 2 = 0 → hdrOf 0 (content D 0) = J.turn ∧ (hdrOf 1 (content D 1) < J.turn ∨ J.turn = 0 ∧ hdrOf 1 (content D 1) = 0)
 h1 : J.turn % 2 = 1 → hdrOf 1 (content D 1) = J.turn ∧ hdrOf 0 (content D 0) < J.turn
 lay : 0 < J.turn → Lay D J.turn 0 0 (J.state :: J.records) J.used
 new : ∀ n, 2 ≤ n → n < D.pages.length → ∀ x, prtOf (content D n) = some x → x.turn ≤ J.turn ∨ x.turn = J.turn + 1 ∧ x.index = 0
 stop : 0 < J.turn → blk D J.turn (J.records.length + 1) J.used = none
/-- Behind its blocks no part of a record stands. -/
structure Live (D : DS) (J : JS) : Prop extends Found D J where
 clean : 0 < J.turn → ∀ k, J.used ≤ k → k < half D → ∀ x, prtOf (content D (first D J.turn + k)) = some x → x.turn = J.turn → x.index = 0
theorem blk_not (D : DS) (t i u : Nat) (h : u < half D → ∀ x, prtOf (content D (first D t + u)) = some x → x.turn = t → x.index ≠ i) : blk D t i u = none := by
 unfold blk
 cases hf : half D - u with
 | zero => rfl
 | succ f =>
  unfold blkF
  rw [if_neg (by omega)]
  have := h (by omega)
  cases hx : prtOf (content D (first D t + u + 0)) with
  | none => rfl
  | some x =>
   show (if _ then _ else _) = _
   rw [if_neg fun hc => this x hx hc.1 hc.2.1]
theorem Lay.lenA {D : DS} {t i a : Nat} {l : List (List UInt8)} {u : Nat} (h : Lay D t i a l u) : a + l.length ≤ u := by
 induction l generalizing i a with
 | nil => exact Nat.le_of_eq h
 | cons s l ih => have := ih h.2.2; have := pagesN_posG s.length; rw [List.length_cons]; omega
theorem Found.used {D : DS} {J : JS} (h : Found D J) : J.used ≤ half D ∧ J.records.length ≤ half D := by
 by_cases h0 : J.turn = 0
 ·rw [h.zero h0]; exact ⟨Nat.zero_le _, Nat.zero_le _⟩
 ·have hl := h.lay (by omega)
  have := hl.used_le
  have h2 := hl.lenA
  rw [List.length_cons] at h2
  omega
theorem Found.halfLe {D : DS} {J : JS} (h : Found D J) : half D ≤ 4096 := by have := h.top; unfold half; omega
theorem find1_found {D : DS} {J : JS} (h : Found D J) : find1 D = J.turn := by
 by_cases h0 : J.turn = 0
 ·obtain ⟨a, b⟩ := h.h0 (by omega)
  have f0 : find0 D = 0 := by unfold find0; rw [if_neg (by omega)]
  unfold find1
  rw [f0, if_neg (by omega), h0]
 ·have hl := h.lay (by omega)
  have ht := h.turn
  have hb := blk_laid D J.turn 0 0 J.state (by omega) (by omega) h.halfLe hl.2.1 hl.1
  rcases Nat.mod_two_eq_zero_or_one J.turn with hm | hm
  ·obtain ⟨a, b⟩ := h.h0 hm
   have f0 : find0 D = J.turn := by unfold find0; rw [a, if_pos ⟨by omega, by rw [hb]; rfl⟩]
   unfold find1
   rw [f0, if_neg (by omega)]
  ·obtain ⟨a, b⟩ := h.h1 hm
   have f0 : find0 D < J.turn := by unfold find0; split <;> omega
   unfold find1
   rw [a, if_pos ⟨f0, by rw [hb]; rfl⟩]
theorem jFind_found {D : DS} {J : JS} (h : Found D J) : jFind D = J := by
 unfold jFind
 rw [find1_found h]
 by_cases h0 : J.turn = 0
 ·rw [if_pos h0, h.zero h0]
 ·have hu := h.used
  have hh := h.halfLe
  have ht := h.turn
  have hb : blocks D J.turn = ends 0 (J.state :: J.records) :=
   blks_lay2 D J.turn (J.state :: J.records) J.used (by omega) hh (half D) 0 0 (by rw [List.length_cons, Nat.zero_add]; exact h.stop (by omega)) (by rw [List.length_cons]; omega) (by omega) (h.lay (by omega))
  rw [if_neg h0, hb, ends_last D J.turn 0 0 J.state J.records J.used (h.lay (by omega))]
  have e : (ends 0 (J.state :: J.records)).tail.map (·.1) = J.records := by
   rw [List.map_tail, ends_fst]; rfl
  rw [e]
  have e2 : ((ends 0 (J.state :: J.records)).head?.map (·.1)).getD [] = J.state := rfl
  rw [e2]
  have := h.unb
  cases J
  simp_all
theorem jOpen_found {D : DS} {J : JS} (h : Found D J) : jOpen D = if J.turn = 0 then (J, D, 0) else (J, erase D J.turn J.used) := by
 unfold jOpen
 have := h.len
 rw [if_neg (by omega), if_neg (by rw [h.nf]; simp), find1_found h]
 by_cases h0 : J.turn = 0
 ·rw [if_pos h0, if_pos h0, h.zero h0]
 ·rw [if_neg h0, if_neg h0, jFind_found h]
theorem zturn : (rd0 (List.replicate 128 0)).2 = 0 := by decide +kernel
theorem prtOf_turn0 {x : Prt} (h : prtOf (List.replicate 128 0) = some x) : x.turn = 0 := by
 unfold prtOf at h
 split at h
 ·injection h with h
  rw [← h]
  exact zturn
 ·cases h
theorem Found.sound {D : DS} {J : JS} (h : Found D J) : Sound D := ⟨h.ok, h.len, h.top, fun _ => h.pend, by rw [h.pend]; exact Nat.zero_le _⟩
/-- Another disk with the same journal. -/
theorem Found.move {D D' : DS} {J : JS} (h : Found D J) (ok : D'.Ok) (hl : D'.pages.length = D.pages.length) (nf : D'.failed = false) (hp : D'.pend = [])
 (hh : ∀ i, i < 2 → hdrOf i (content D' i) = hdrOf i (content D i) ∨ i ≠ J.turn % 2 ∧ hdrOf i (content D' i) = 0)
 (hk : ∀ k, k < J.used → content D' (first D J.turn + k) = content D (first D J.turn + k))
 (new : ∀ n, 2 ≤ n → n < D'.pages.length → ∀ x, prtOf (content D' n) = some x → x.turn ≤ J.turn ∨ x.turn = J.turn + 1 ∧ x.index = 0)
 (stop : 0 < J.turn → blk D' J.turn (J.records.length + 1) J.used = none) : Found D' J := by
 refine ⟨ok, by rw [hl]; exact h.len, by rw [hl]; exact h.top, nf, hp, h.unb, h.zero, h.turn, fun hm => ?_, fun hm => ?_, fun h0 => (h.lay h0).keep hl hk, new, stop⟩
 ·obtain ⟨a, b⟩ := h.h0 hm
  have e0 := hh 0 (by omega)
  have e1 := hh 1 (by omega)
  omega
 ·obtain ⟨a, b⟩ := h.h1 hm
  have e0 := hh 0 (by omega)
  have e1 := hh 1 (by omega)
  omega
/-! ### Erasing -/
theorem clean_stale {D : DS} {t u : Nat} (h : stale D t u = false) : Clean D t u := by
 intro k h1 h2 x hx
 unfold stale at h
 rw [List.any_eq_false] at h
 have := h (k - u) (List.mem_range.2 (by omega))
 rw [show first D t + u + (k - u) = first D t + k by omega, hx] at this
 simpa using this
def zeros (l : List Nat) : List (Nat × List UInt8) := l.map (·, List.replicate 128 0)
theorem dirty_mem {D : DS} {t u n : Nat} : n ∈ dirty D t u ↔ (∃ k, k < half D - u ∧ n = first D t + u + k) ∧ content D n ≠ List.replicate 128 0 := by
 unfold dirty
 rw [List.mem_filter, List.mem_map]
 constructor
 ·rintro ⟨⟨k, hk, rfl⟩, h⟩
  exact ⟨⟨k, List.mem_range.1 hk, rfl⟩, by simpa using h⟩
 ·rintro ⟨⟨k, hk, rfl⟩, h⟩
  exact ⟨⟨k, List.mem_range.2 hk, rfl⟩, by simpa using h⟩
theorem dirty_len (D : DS) (t u : Nat) : (dirty D t u).length ≤ half D := by
 unfold dirty
 refine Nat.le_trans (List.length_filter_le _ _) ?_
 rw [List.length_map, List.length_range]; omega
theorem zeros_ok {D : DS} (h8 : 8 ≤ D.pages.length) (t u : Nat) (hu : u ≤ half D) : ∀ x ∈ zeros (dirty D t u), x.1 < D.pages.length ∧ x.2.length = 128 := by
 have hf := first_hiG D t h8
 intro x hx
 obtain ⟨n, hn, rfl⟩ := List.mem_map.1 hx
 obtain ⟨⟨k, hk, rfl⟩, _⟩ := dirty_mem.1 hn
 exact ⟨by dsimp only; omega, by simp⟩
theorem dirty_pair (D : DS) (t u : Nat) : (zeros (dirty D t u)).Pairwise (fun x y => x.1 ≠ y.1) := by
 unfold zeros dirty
 rw [List.pairwise_map]
 refine List.Pairwise.filter _ ?_
 rw [List.pairwise_map]
 exact List.Pairwise.imp (fun h => by omega) List.pairwise_lt_range
/-- Pages behind the last block are zero, all else is as it was. -/
structure Wiped (D D' : DS) (t u : Nat) : Prop where
 len : D'.pages.length = D.pages.length
 nf : D'.failed = false
 pend : D'.pend = []
 same : ∀ n, (n < first D t + u ∨ first D t + half D ≤ n) → content D' n = content D n
 zero : ∀ k, u ≤ k → k < half D → content D' (first D t + k) = List.replicate 128 0
theorem wiped_set {D : DS} (hp : D.pend = []) (h8 : 8 ≤ D.pages.length) (t u : Nat) (hu : u ≤ half D) (f : Int) : Wiped D ⟨setAll D.pages (zeros (dirty D t u)), [], f, false⟩ t u := by
 refine ⟨setAll_len _ _, rfl, rfl, fun n hn => ?_, fun k h1 h2 => ?_⟩
 ·rw [content_calm rfl, content_calm hp]
  refine setAll_other _ _ _ fun x hx => ?_
  obtain ⟨m, hm, rfl⟩ := List.mem_map.1 hx
  obtain ⟨⟨k, hk, rfl⟩, _⟩ := dirty_mem.1 hm
  dsimp only
  omega
 ·rw [content_calm rfl]
  show (setAll D.pages (zeros (dirty D t u))).getD (first D t + k) [] = _
  by_cases hd : first D t + k ∈ dirty D t u
  ·have hm : (first D t + k, List.replicate 128 0) ∈ zeros (dirty D t u) := List.mem_map.2 ⟨_, hd, rfl⟩
   exact setAll_at _ D.pages (dirty_pair D t u) _ hm (zeros_ok h8 t u hu _ hm).1
  ·rw [setAll_other _ _ _ (fun x hx => by
    obtain ⟨m, hm, rfl⟩ := List.mem_map.1 hx
    intro e
    dsimp only at e
    exact hd (e ▸ hm)), ← content_calm hp]
   by_cases hc : content D (first D t + k) = List.replicate 128 0
   ·exact hc
   ·exact absurd (dirty_mem.2 ⟨⟨k - u, by omega, by omega⟩, hc⟩) hd
theorem erase_out {D : DS} (hs : Sound D) (hf : D.failed = false) (t u : Nat) (hu : u ≤ half D) :
 (∃ D', erase D t u = (D', 0) ∧ (D' = D ∧ Clean D t u ∨ Wiped D D' t u ∧ Sound D') ∧ (D.fuse = -1 → D'.fuse = -1)) ∨ (D.fuse ≠ -1 ∧ ∃ L, (∀ x ∈ L, x.1 < D.pages.length ∧ x.2.length = 128) ∧ L.length ≤ 5000 ∧ erase D t u = (⟨D.pages, L, 0, true⟩, 10)) := by
 unfold erase
 cases hst : stale D t u with
 | false => exact .inl ⟨D, rfl, .inl ⟨rfl, clean_stale hst⟩, id⟩
 | true =>
  have hz := zeros_ok hs.len t u hu
  have hd := dirty_len D t u
  have hh : half D ≤ 4096 := by have := hs.top; unfold half; omega
  have h5 : (zeros (dirty D t u)).length ≤ 5000 := by unfold zeros; rw [List.length_map]; omega
  have hso := dWrites_sound hs hf _ hz h5
  rw [if_pos rfl]
  change (∃ D', dWrites D (zeros (dirty D t u)) = (D', 0) ∧ _) ∨ _ ∧ ∃ L, _ ∧ _ ∧ dWrites D (zeros (dirty D t u)) = _
  rcases dWrites_out _ D hs.ok hf hz with ⟨f, h1, h2, h3, e⟩ | ⟨h3, k, hk, e⟩
  ·rw [hs.pend hf, List.nil_append] at e
   rw [e] at hso
   exact .inl ⟨_, e, .inr ⟨wiped_set (hs.pend hf) hs.len t u hu f, hso.1⟩, h3⟩
  ·rw [hs.pend hf, List.nil_append] at e
   exact .inr ⟨h3, _, fun x hx => hz x (List.mem_of_mem_take hx), by rw [List.length_take]; omega, e⟩
theorem Wiped.live {D D' : DS} {J : JS} (h : Found D J) (h0 : 0 < J.turn) (k : Wiped D D' J.turn J.used) (ok : D'.Ok) : Live D' J := by
 have hz : ∀ n, J.used ≤ n → n < half D → ∀ x, prtOf (content D' (first D J.turn + n)) = some x → x.turn = 0 := fun n h1 h2 x hx => by
  rw [k.zero n h1 h2] at hx
  exact prtOf_turn0 hx
 have hf := first_lo D J.turn
 have hcl : ∀ n, J.used ≤ n → n < half D' → ∀ x, prtOf (content D' (first D' J.turn + n)) = some x → x.turn = J.turn → x.index = 0 := fun n h1 h2 x hx he => by
  rw [half_eq k.len] at h2
  rw [first_eq k.len] at hx
  have := hz n h1 h2 x hx
  omega
 refine ⟨h.move ok k.len k.nf k.pend (fun i hi => .inl (by rw [k.same i (by omega)])) (fun i hi => k.same _ (by omega)) (fun n h2 hn x hx => ?_) (fun _ => blk_not _ _ _ _ fun hu x hx he => ?_), fun _ => hcl⟩
 ·by_cases hi : n < first D J.turn + J.used ∨ first D J.turn + half D ≤ n
  ·rw [k.same n hi] at hx
   exact h.new n h2 (by rw [← k.len]; exact hn) x hx
  ·have := hz (n - first D J.turn) (by omega) (by omega) x (by rwa [show first D J.turn + (n - first D J.turn) = n by omega])
   omega
 ·have := hcl J.used (Nat.le_refl _) hu x hx he
  omega
theorem Found.erase_out {D : DS} {J : JS} (h : Found D J) (h0 : 0 < J.turn) :
 (∃ D', erase D J.turn J.used = (D', 0) ∧ Live D' J ∧ (D.fuse = -1 → D'.fuse = -1)) ∨ (D.fuse ≠ -1 ∧ ∃ L, (∀ x ∈ L, x.1 < D.pages.length ∧ x.2.length = 128) ∧ L.length ≤ 5000 ∧ erase D J.turn J.used = (⟨D.pages, L, 0, true⟩, 10)) := by
 rcases Go.Proofs.YtpadgkkeihhneaaGreat.erase_out h.sound h.nf J.turn J.used h.used.1 with ⟨D', e, hw, hfz⟩ | hr
 ·refine .inl ⟨D', e, ?_, hfz⟩
  rcases hw with ⟨rfl, hc⟩ | ⟨hw, hs⟩
  ·exact ⟨h, fun _ k h1 h2 x hx he => absurd he (hc k h1 h2 x hx)⟩
  ·exact hw.live h h0 hs.ok
 ·exact .inr hr
/-- Open on a disk whose fuse is absent. -/
theorem jOpen_calm {D : DS} {J : JS} (h : Found D J) (hfz : D.fuse = -1) : ∃ D', jOpen D = (J, D', 0) ∧ Live D' J ∧ D'.fuse = -1 := by
 rw [jOpen_found h]
 by_cases h0 : J.turn = 0
 ·rw [if_pos h0]
  exact ⟨D, rfl, ⟨h, fun hx => absurd h0 (by omega)⟩, hfz⟩
 ·rw [if_neg h0]
  rcases h.erase_out (by omega) with ⟨D', e, hl, hk⟩ | ⟨hn, _⟩
  ·exact ⟨D', by rw [e], hl, hk hfz⟩
  ·exact absurd hfz hn
theorem jOpen_any {D : DS} {J : JS} (h : Found D J) : (∃ D', jOpen D = (J, D', 0) ∧ Live D' J) ∨ ∃ L, (∀ x ∈ L, x.1 < D.pages.length ∧ x.2.length = 128) ∧ L.length ≤ 5000 ∧ jOpen D = (J, ⟨D.pages, L, 0, true⟩, 10) := by
 rw [jOpen_found h]
 by_cases h0 : J.turn = 0
 ·rw [if_pos h0]
  exact .inl ⟨D, rfl, ⟨h, fun hx => absurd h0 (by omega)⟩⟩
 ·rw [if_neg h0]
  rcases h.erase_out (by omega) with ⟨D', e, hl, hk⟩ | ⟨hn, L, h1, h2, e⟩
  ·exact .inl ⟨D', by rw [e], hl⟩
  ·exact .inr ⟨L, h1, h2, by rw [e]⟩
/-! ### Crashes -/
/-- A pending write of which a part survives that reads as a page. -/
def torn (D : DS) (s : List Int) (x : Nat × List UInt8) : Bool :=
 !(content (dCrash D s) x.1 == x.2 || content (dCrash D s) x.1 == D.pages.getD x.1 []) && (prtOk (content (dCrash D s) x.1) || decide (x.1 < 2) && decide (0 < hdrOf x.1 (content (dCrash D s) x.1)))
/-- What Coincides reports. -/
def coin (D : DS) (s : List Int) : Bool := D.pend.any (torn D s)
/-- What a crash without coincidence leaves of writes to a disk. -/
structure Mix (D D' : DS) (L : List (Nat × List UInt8)) : Prop where
 ok : D'.Ok
 len : D'.pages.length = D.pages.length
 nf : D'.failed = false
 pend : D'.pend = []
 fuse : D'.fuse = -1
 other : ∀ n, (∀ x ∈ L, x.1 ≠ n) → content D' n = D.pages.getD n []
 each : ∀ x ∈ L, content D' x.1 = x.2 ∨ content D' x.1 = D.pages.getD x.1 [] ∨ prtOf (content D' x.1) = none ∧ (x.1 < 2 → hdrOf x.1 (content D' x.1) = 0)
theorem mix_crash {D : DS} (hok : D.Ok) (s : List Int) (hc : coin D s = false) : Mix D (dCrash D s) D.pend := by
 refine ⟨dCrash_ok hok s, settle_len _ _ _ _, rfl, rfl, rfl, fun n hn => ?_, fun x hx => ?_⟩
 ·rw [content_calm rfl]
  exact settle_other _ _ _ _ _ hn
 ·have h := (List.any_eq_false.1 hc) x hx
  unfold torn at h
  by_cases h1 : content (dCrash D s) x.1 = x.2
  ·exact .inl h1
  ·by_cases h2 : content (dCrash D s) x.1 = D.pages.getD x.1 []
   ·exact .inr (.inl h2)
   ·refine .inr (.inr ?_)
    have e1 : (content (dCrash D s) x.1 == x.2) = false := by simpa using h1
    have e2 : (content (dCrash D s) x.1 == D.pages.getD x.1 []) = false := by simpa using h2
    rw [e1, e2] at h
    simp only [Bool.or_self, Bool.not_false, Bool.true_and, Bool.or_eq_true, Bool.and_eq_true, decide_eq_true_eq, not_or, not_and] at h
    refine ⟨?_, fun hx2 => by have := h.2 hx2; omega⟩
    unfold prtOf
    rw [if_neg h.1]
theorem settle_zero (i : Nat) (ws : List (Nat × List UInt8)) (ps : List (List UInt8)) (hw : ∀ x ∈ ws, x.1 < ps.length) : settleFrom (fun k => ([] : List Int).getD k 0) i ws ps = ps := by
 induction ws generalizing i ps with
 | nil => rfl
 | cons w ws ih =>
  have e : ps.set w.1 (mixed (ps.getD w.1 []) w.2 (([] : List Int).getD i 0)) = ps := by
   have h1 := hw w (by simp)
   have e1 : mixed (ps.getD w.1 []) w.2 (([] : List Int).getD i 0) = ps.getD w.1 [] := by
    unfold mixed
    have : (min (max (([] : List Int).getD i 0) 0) 128).toNat = 0 := by simp; omega
    rw [this]; simp
   rw [e1, List.getD_eq_getElem?_getD, List.getElem?_eq_getElem h1]
   exact List.set_getElem_self h1
  show settleFrom _ (i + 1) ws (ps.set w.1 (mixed (ps.getD w.1 []) w.2 (([] : List Int).getD i 0))) = ps
  rw [e]
  exact ih (i + 1) ps (fun x hx => hw x (by simp [hx]))
theorem crash_nil {D : DS} (hok : D.Ok) : dCrash D [] = ⟨D.pages, [], -1, false⟩ := by
 unfold dCrash dSettle
 dsimp only
 rw [settle_zero 0 D.pend D.pages (fun x hx => (hok.pend x hx).1)]
theorem coin_nil {D : DS} (hok : D.Ok) : coin D [] = false := by
 unfold coin
 rw [List.any_eq_false]
 intro x hx
 unfold torn
 rw [crash_nil hok, content_calm rfl]
 simp
/-- A crash of a disk on which nothing waits. -/
theorem crash_none {D : DS} (h : D.pend = []) (s : List Int) : dCrash D s = ⟨D.pages, [], -1, false⟩ := by
 unfold dCrash dSettle
 dsimp only
 rw [h]
 rfl
/-- Another fuse. -/
theorem Found.other {D D' : DS} {J : JS} (h : Found D J) (h1 : D'.pages = D.pages) (h2 : D'.pend = []) (h3 : D'.failed = false) (h4 : D'.Ok) : Found D' J := by
 have hl : D'.pages.length = D.pages.length := by rw [h1]
 have hc : ∀ n, content D' n = content D n := fun n => by rw [content_calm h2, content_calm h.pend, h1]
 refine h.move h4 hl h3 h2 (fun i hi => .inl (by rw [hc])) (fun k hk => hc _) (fun n h5 hn x hx => h.new n h5 (by rw [← hl]; exact hn) x (by rwa [hc] at hx)) (fun h0 => ?_)
 rw [← h.stop h0]
 unfold blk
 rw [half_eq hl]
 have : ∀ (f p q : Nat) (s : List UInt8), blkF D' J.turn (J.records.length + 1) J.used f p q s = blkF D J.turn (J.records.length + 1) J.used f p q s := by
  intro f
  induction f with
  | zero => intros; rfl
  | succ f ih =>
   intro p q s
   unfold blkF
   rw [half_eq hl, first_eq hl, hc]
   simp only [ih]
 exact this _ _ _ _
theorem Live.other {D D' : DS} {J : JS} (h : Live D J) (h1 : D'.pages = D.pages) (h2 : D'.pend = []) (h3 : D'.failed = false) (h4 : D'.Ok) : Live D' J := by
 have hl : D'.pages.length = D.pages.length := by rw [h1]
 have hc : ∀ n, content D' n = content D n := fun n => by rw [content_calm h2, content_calm h.pend, h1]
 exact ⟨h.toFound.other h1 h2 h3 h4, fun h0 k hk1 hk2 x hx => h.clean h0 k hk1 (by rwa [half_eq hl] at hk2) x (by rwa [hc, first_eq hl] at hx)⟩
/-- A page of a block is the new one, the old one, or none at all. -/
def Part3 (D D' : DS) (t i a : Nat) (s : List UInt8) : Prop := ∀ p, p < pagesN s.length →
 content D' (first D t + a + p) = prtPage (Prt.one t i p s) ∨ content D' (first D t + a + p) = content D (first D t + a + p) ∨ prtOf (content D' (first D t + a + p)) = none
/-- Pages outside the block are as they were. -/
def Outside (D D' : DS) (t a : Nat) (s : List UInt8) : Prop := ∀ n, (n < first D t + a ∨ first D t + a + pagesN s.length ≤ n) → content D' n = content D n
/-- A block of which one page is missing is not found. -/
theorem blkF_part (D : DS) (t i a : Nat) (s : List UInt8) (ht : t < 2 ^ 40) (hi : i < 2 ^ 40) (hs : pagesN s.length ≤ 4096)
 (h : ∀ p, p < pagesN s.length → content D (first D t + a + p) = prtPage (Prt.one t i p s) ∨ ∀ x, prtOf (content D (first D t + a + p)) = some x → x.turn = t → x.index ≠ i)
 (k : Nat) (hk : k < pagesN s.length) (hb : ∀ x, prtOf (content D (first D t + a + k)) = some x → x.turn = t → x.index ≠ i)
 (f p q : Nat) (r : List UInt8) (hp : p ≤ k) : blkF D t i a f p q r = none := by
 induction f generalizing p q r with
 | zero => rfl
 | succ f ih =>
  unfold blkF
  by_cases hh : half D ≤ a + p
  ·rw [if_pos hh]
  ·rw [if_neg hh]
   cases hx : prtOf (content D (first D t + a + p)) with
   | none => rfl
   | some x =>
    show (if _ then _ else _) = _
    rcases h p (by omega) with h1 | h1
    ·rw [h1, prtOf_one t i p s ht hi (by omega) hs] at hx
     cases hx
     by_cases hpk : p = k
     ·exfalso
      subst hpk
      rw [h1, prtOf_one t i p s ht hi (by omega) hs] at hb
      exact hb _ rfl rfl rfl
     ·split
      ·rw [if_neg (by show ¬ p + 1 = pagesN s.length; omega)]
       exact ih _ _ _ (by omega)
      ·rfl
    ·rw [if_neg fun hc => h1 x hx hc.1 hc.2.1]
/-- All pages of the appended block are there. -/
theorem append_new {D D' : DS} {J : JS} (h : Live D J) (h0 : 0 < J.turn) (s : List UInt8) (hu : J.used + pagesN s.length ≤ half D) (ok : D'.Ok) (hl : D'.pages.length = D.pages.length) (nf : D'.failed = false) (hp : D'.pend = [])
 (ho : Outside D D' J.turn J.used s) (hn : ∀ p, p < pagesN s.length → content D' (first D J.turn + J.used + p) = prtPage (Prt.one J.turn (J.records.length + 1) p s)) :
 Live D' { J with records := J.records ++ [s], used := J.used + pagesN s.length } := by
 have hlay := h.lay h0
 have hf := first_lo D J.turn
 have hpp := pagesN_posG s.length
 have hh := h.halfLe
 have hr := h.used
 have ht := h.turn
 have hcl : ∀ k, J.used + pagesN s.length ≤ k → k < half D' → ∀ x, prtOf (content D' (first D' J.turn + k)) = some x → x.turn = J.turn → x.index = 0 := fun k h1 h2 x hx he => by
  rw [half_eq hl] at h2
  rw [first_eq hl, ho _ (by omega)] at hx
  exact h.clean h0 k (by omega) h2 x hx he
 refine ⟨⟨ok, by rw [hl]; exact h.len, by rw [hl]; exact h.top, nf, hp, h.unb, fun e0 => absurd e0 (by dsimp only; omega), h.turn, fun hm => ?_, fun hm => ?_, fun _ => ?_, fun n h2 hn' x hx => ?_, fun _ => ?_⟩, fun _ => hcl⟩
 ·rw [ho 0 (by omega), ho 1 (by omega)]
  exact h.h0 hm
 ·rw [ho 0 (by omega), ho 1 (by omega)]
  exact h.h1 hm
 ·have hkeep := hlay.keep hl (fun k hk => ho _ (by omega))
  refine hkeep.snoc s ?_ (by rw [half_eq hl]; exact hu)
  intro p hp'
  rw [first_eq hl, hn p hp', List.length_cons, Nat.zero_add]
 ·by_cases hi : n < first D J.turn + J.used ∨ first D J.turn + J.used + pagesN s.length ≤ n
  ·rw [ho n hi] at hx
   exact h.new n h2 (by rw [← hl]; exact hn') x hx
  ·have := hn (n - (first D J.turn + J.used)) (by omega)
   rw [show first D J.turn + J.used + (n - (first D J.turn + J.used)) = n by omega] at this
   rw [this, prtOf_one _ _ _ _ (by omega) (by omega) (by omega) (by omega)] at hx
   cases hx
   exact .inl (Nat.le_refl _)
 ·refine blk_not _ _ _ _ fun hu2 x hx he => ?_
  have := hcl _ (Nat.le_refl _) hu2 x hx he
  omega
/-- One page of the appended block is missing. -/
theorem append_part {D D' : DS} {J : JS} (h : Live D J) (h0 : 0 < J.turn) (s : List UInt8) (hu : J.used + pagesN s.length ≤ half D) (ok : D'.Ok) (hl : D'.pages.length = D.pages.length) (nf : D'.failed = false) (hp : D'.pend = [])
 (ho : Outside D D' J.turn J.used s) (hn : Part3 D D' J.turn (J.records.length + 1) J.used s) (k : Nat) (hk : k < pagesN s.length) (hb : content D' (first D J.turn + J.used + k) ≠ prtPage (Prt.one J.turn (J.records.length + 1) k s)) : Found D' J := by
 have hf := first_lo D J.turn
 have hh := h.halfLe
 have hr := h.used
 have ht := h.turn
 have hold : ∀ p, p < pagesN s.length → (content D' (first D J.turn + J.used + p) = content D (first D J.turn + J.used + p) ∨ prtOf (content D' (first D J.turn + J.used + p)) = none) → ∀ x, prtOf (content D' (first D J.turn + J.used + p)) = some x → x.turn = J.turn → x.index ≠ J.records.length + 1 := fun p hp' hd x hx he => by
  rcases hd with hd | hd
  ·rw [hd, Nat.add_assoc] at hx
   have := h.clean h0 (J.used + p) (by omega) (by omega) x hx he
   omega
  ·rw [hd] at hx; cases hx
 refine h.toFound.move ok hl nf hp (fun i hi => .inl (by rw [ho i (by omega)])) (fun k hk => ho _ (by omega)) (fun n h2 hn' x hx => ?_) (fun _ => ?_)
 ·by_cases hi : n < first D J.turn + J.used ∨ first D J.turn + J.used + pagesN s.length ≤ n
  ·rw [ho n hi] at hx
   exact h.new n h2 (by rw [← hl]; exact hn') x hx
  ·have hq := hn (n - (first D J.turn + J.used)) (by omega)
   rw [show first D J.turn + J.used + (n - (first D J.turn + J.used)) = n by omega] at hq
   rcases hq with hq | hq | hq
   ·rw [hq, prtOf_one _ _ _ _ (by omega) (by omega) (by omega) (by omega)] at hx
    cases hx
    exact .inl (Nat.le_refl _)
   ·rw [hq] at hx
    exact h.new n h2 (by rw [← hl]; exact hn') x hx
   ·rw [hq] at hx; cases hx
 ·refine blkF_part D' J.turn (J.records.length + 1) J.used s (by omega) (by omega) (by omega) (fun p hp' => ?_) k hk ?_ _ _ _ _ (Nat.zero_le _)
  ·rw [first_eq hl]
   rcases hn p hp' with hq | hq
   ·exact .inl hq
   ·exact .inr (hold p hp' hq)
  ·rw [first_eq hl]
   exact hold k hk ((hn k hk).resolve_left hb)
theorem append_any {D D' : DS} {J : JS} (h : Live D J) (h0 : 0 < J.turn) (s : List UInt8) (hu : J.used + pagesN s.length ≤ half D) (ok : D'.Ok) (hl : D'.pages.length = D.pages.length) (nf : D'.failed = false) (hp : D'.pend = [])
 (ho : Outside D D' J.turn J.used s) (hn : Part3 D D' J.turn (J.records.length + 1) J.used s) : Found D' J ∨ Found D' { J with records := J.records ++ [s], used := J.used + pagesN s.length } := by
 by_cases ha : ∀ p, p < pagesN s.length → content D' (first D J.turn + J.used + p) = prtPage (Prt.one J.turn (J.records.length + 1) p s)
 ·exact .inr (append_new h h0 s hu ok hl nf hp ho ha).toFound
 ·obtain ⟨k, hk⟩ := Classical.not_forall.1 ha
  obtain ⟨hk, hb⟩ := Classical.not_imp.1 hk
  exact .inl (append_part h h0 s hu ok hl nf hp ho hn k hk hb)
/-- The other half's block, written or not. -/
theorem save_part {D D' : DS} {J : JS} (h : Live D J) (s : List UInt8) (hu : pagesN s.length ≤ half D) (ok : D'.Ok) (hl : D'.pages.length = D.pages.length) (nf : D'.failed = false) (hp : D'.pend = [])
 (ho : Outside D D' (J.turn + 1) 0 s) (hn : Part3 D D' (J.turn + 1) 0 0 s) : Live D' J := by
 have hf := first_lo D (J.turn + 1)
 have hh := h.halfLe
 have hr := h.used
 have ht := h.turn
 have hlen := h.len
 have hap : ∀ k, k < half D → content D' (first D J.turn + k) = content D (first D J.turn + k) := fun k hk => ho _ (by
  unfold first
  rcases Nat.mod_two_eq_zero_or_one J.turn with e | e
  ·rw [e, show (J.turn + 1) % 2 = 1 by omega]; omega
  ·rw [e, show (J.turn + 1) % 2 = 0 by omega]; omega)
 have hcl : 0 < J.turn → ∀ k, J.used ≤ k → k < half D' → ∀ x, prtOf (content D' (first D' J.turn + k)) = some x → x.turn = J.turn → x.index = 0 := fun h0 k h1 h2 x hx he => by
  rw [half_eq hl] at h2
  rw [first_eq hl, hap k h2] at hx
  exact h.clean h0 k h1 h2 x hx he
 refine ⟨h.toFound.move ok hl nf hp (fun i hi => .inl (by rw [ho i (by omega)])) (fun k hk => hap k (by omega)) (fun n h2 hn' x hx => ?_) (fun h0 => blk_not _ _ _ _ fun hu2 x hx he => ?_), hcl⟩
 ·by_cases hi : n < first D (J.turn + 1) + 0 ∨ first D (J.turn + 1) + 0 + pagesN s.length ≤ n
  ·rw [ho n hi] at hx
   exact h.new n h2 (by rw [← hl]; exact hn') x hx
  ·have hq := hn (n - (first D (J.turn + 1) + 0)) (by omega)
   rw [show first D (J.turn + 1) + 0 + (n - (first D (J.turn + 1) + 0)) = n by omega] at hq
   rcases hq with hq | hq | hq
   ·rw [hq, prtOf_one _ _ _ _ (by omega) (by omega) (by omega) (by omega)] at hx
    cases hx
    exact .inr ⟨rfl, rfl⟩
   ·rw [hq] at hx
    exact h.new n h2 (by rw [← hl]; exact hn') x hx
   ·rw [hq] at hx; cases hx
 ·have := hcl h0 _ (Nat.le_refl _) hu2 x hx he
  omega
/-- The header is written behind the block. -/
theorem save_new {D D' : DS} {J : JS} (h : Live D J) (s : List UInt8) (hu : pagesN s.length ≤ half D) (ht2 : J.turn + 1 < 2 ^ 39) (hs : Laid D (J.turn + 1) 0 0 s) (ok : D'.Ok) (hl : D'.pages.length = D.pages.length) (nf : D'.failed = false) (hp : D'.pend = [])
 (ho : ∀ n, n ≠ (J.turn + 1) % 2 → content D' n = content D n) (hn : content D' ((J.turn + 1) % 2) = hdrPage (J.turn + 1)) : Live D' ⟨J.turn + 1, s, [], pagesN s.length, false⟩ := by
 have hf := first_lo D (J.turn + 1)
 have hfh := first_hiG D (J.turn + 1) h.len
 have hh := h.halfLe
 have hb := hdrOf_page (J.turn + 1) (by omega)
 have hcl : ∀ k, pagesN s.length ≤ k → k < half D' → ∀ x, prtOf (content D' (first D' (J.turn + 1) + k)) = some x → x.turn = J.turn + 1 → x.index = 0 := fun k h1 h2 x hx he => by
  rw [half_eq hl] at h2
  rw [first_eq hl, ho _ (by omega)] at hx
  have := h.new _ (by omega) (by omega) x hx
  omega
 refine ⟨⟨ok, by rw [hl]; exact h.len, by rw [hl]; exact h.top, nf, hp, rfl, fun e0 => absurd e0 (by dsimp only; omega), ht2, fun hm => ?_, fun hm => ?_, fun _ => ?_, fun n h2 hn' x hx => ?_, fun _ => ?_⟩, fun _ => hcl⟩
 ·dsimp only at hm ⊢
  rw [hm] at hn hb ho
  rw [hn, ho 1 (by omega)]
  refine ⟨hb, .inl ?_⟩
  have := (h.h1 (by omega)).1
  omega
 ·dsimp only at hm ⊢
  rw [hm] at hn hb ho
  rw [hn, ho 0 (by omega)]
  refine ⟨hb, ?_⟩
  have := (h.h0 (by omega)).1
  omega
 ·refine ⟨hs.keep hl fun k hk => ho _ (by omega), (show 0 + pagesN s.length ≤ half D' by rw [half_eq hl]; omega), (show 0 + pagesN s.length = pagesN s.length by omega)⟩
 ·show x.turn ≤ J.turn + 1 ∨ _
  rw [ho n (by omega)] at hx
  have := h.new n h2 (by rw [← hl]; exact hn') x hx
  omega
 ·refine blk_not _ _ _ _ fun hu2 x hx he => ?_
  have := hcl _ (Nat.le_refl _) hu2 x hx he
  show x.index ≠ 0 + 1
  omega
/-- The header is not written. -/
theorem save_old {D D' : DS} {J : JS} (h : Live D J) (ok : D'.Ok) (hl : D'.pages.length = D.pages.length) (nf : D'.failed = false) (hp : D'.pend = [])
 (ho : ∀ n, n ≠ (J.turn + 1) % 2 → content D' n = content D n) (hn : content D' ((J.turn + 1) % 2) = content D ((J.turn + 1) % 2) ∨ hdrOf ((J.turn + 1) % 2) (content D' ((J.turn + 1) % 2)) = 0) : Live D' J := by
 have hf := first_lo D J.turn
 have hcl : 0 < J.turn → ∀ k, J.used ≤ k → k < half D' → ∀ x, prtOf (content D' (first D' J.turn + k)) = some x → x.turn = J.turn → x.index = 0 := fun h0 k h1 h2 x hx he => by
  rw [half_eq hl] at h2
  rw [first_eq hl, ho _ (by omega)] at hx
  exact h.clean h0 k h1 h2 x hx he
 refine ⟨h.toFound.move ok hl nf hp (fun i hi => ?_) (fun k hk => ho _ (by omega)) (fun n h2 hn' x hx => h.new n h2 (by rw [← hl]; exact hn') x (by rwa [ho n (by omega)] at hx)) (fun h0 => blk_not _ _ _ _ fun hu2 x hx he => ?_), hcl⟩
 ·by_cases hi2 : i = (J.turn + 1) % 2
  ·rw [hi2]
   rcases hn with hn | hn
   ·exact .inl (by rw [hn])
   ·exact .inr ⟨by omega, hn⟩
  ·exact .inl (by rw [ho i hi2])
 ·have := hcl h0 _ (Nat.le_refl _) hu2 x hx he
  omega
/-! ### What a call leaves -/
theorem take_at_mem {a k : Nat} {l : List (List UInt8)} {x : Nat × List UInt8} (h : x ∈ (at_ a l).take k) : ∃ j, j < l.length ∧ x = (a + j, l.getD j []) := (at_mem _ _ _).1 (List.mem_of_mem_take h)
/-- Writes of a block that fail, then a crash without coincidence. -/
theorem mix_put {D D' : DS} (hs : Sound D) (hf : D.failed = false) (t i a : Nat) (s : List UInt8) (ht : t ≤ 1099511629000) (hi : i ≤ 2 ^ 40) (ha : a + pagesN s.length ≤ half D) (k : Nat) (hm : Mix ⟨D.pages, (at_ (first D t + a) (prts t i s)).take k, 0, true⟩ D' ((at_ (first D t + a) (prts t i s)).take k)) :
 Outside D D' t a s ∧ Part3 D D' t i a s := by
 have hc : ∀ n, content D n = D.pages.getD n [] := fun n => content_calm (hs.pend hf) n
 have hoth : ∀ n, (∀ x ∈ (at_ (first D t + a) (prts t i s)).take k, x.1 ≠ n) → content D' n = content D n := fun n hn => by rw [hc]; exact hm.other n hn
 refine ⟨fun n hn => hoth n fun x hx => ?_, fun p hp => ?_⟩
 ·obtain ⟨j, hj, rfl⟩ := take_at_mem hx
  rw [prts_length] at hj
  dsimp only
  omega
 ·by_cases hin : ∃ x ∈ (at_ (first D t + a) (prts t i s)).take k, x.1 = first D t + a + p
  ·obtain ⟨x, hx, he⟩ := hin
   have he2 := hm.each x hx
   obtain ⟨j, hj, rfl⟩ := take_at_mem hx
   rw [prts_length] at hj
   dsimp only at he he2
   obtain rfl : j = p := by omega
   rw [prts_getD t i s j hj] at he2
   rw [hc]
   rcases he2 with e | e | e
   ·exact .inl e
   ·exact .inr (.inl e)
   ·exact .inr (.inr e.1)
  ·exact .inr (.inl (hoth _ fun x hx e => hin ⟨x, hx, e⟩))
/-- Writes of a block that succeed. -/
theorem put_done {D : DS} (hs : Sound D) (hf : D.failed = false) (t i a : Nat) (s : List UInt8) (ht : t ≤ 1099511629000) (hi : i ≤ 2 ^ 40) (ha : a + pagesN s.length ≤ half D) (f : Int) :
 Outside D ⟨setAll D.pages (at_ (first D t + a) (prts t i s)), [], f, false⟩ t a s ∧ ∀ p, p < pagesN s.length → content ⟨setAll D.pages (at_ (first D t + a) (prts t i s)), [], f, false⟩ (first D t + a + p) = prtPage (Prt.one t i p s) := by
 have hok := putAll_ok hs.len hs.top t i a s ht hi ha
 refine ⟨fun n hn => ?_, fun p hp => ?_⟩
 ·rw [content_calm rfl, content_calm (hs.pend hf)]
  refine setAll_other _ _ _ fun x hx => ?_
  obtain ⟨j, hj, rfl⟩ := (at_mem _ _ _).1 hx
  rw [prts_length] at hj
  dsimp only
  omega
 ·rw [content_calm rfl]
  have hm : (first D t + a + p, (prts t i s).getD p []) ∈ at_ (first D t + a) (prts t i s) := (at_mem _ _ _).2 ⟨p, by rw [prts_length]; exact hp, rfl⟩
  have := setAll_at _ D.pages (at_pair _ _) _ hm (hok _ hm).1
  dsimp only at this ⊢
  rw [this, prts_getD t i s p hp]
/-- What a call leaves: done; refused; or the disk has failed, and a crash without coincidence leaves the one or the other. -/
inductive Left (D : DS) (J J2 : JS) (r : DS × JS × Int) : Prop where
 | done (h0 : r.2.2 = 0) (h1 : r.2.1 = J2) (h2 : Live r.1 J2)
 | refused (h0 : r.2.2 ≠ 0) (h1 : r.1 = D) (h2 : r.2.1 = J)
 | failed (h0 : r.2.2 ≠ 0) (h1 : r.2.1 = { J with broken := true }) (h2 : r.1.failed = true) (h3 : Sound r.1) (h4 : ∀ s, coin r.1 s = false → Found (dCrash r.1 s) J ∨ Found (dCrash r.1 s) J2)
theorem append_left {D : DS} {J : JS} (h : Live D J) (s : List UInt8) : Left D J { J with records := J.records ++ [s], used := J.used + pagesN s.length } (jAppend D J s) := by
 have ht := h.turn
 have hr := h.used
 have hh := h.halfLe
 unfold jAppend
 by_cases h0 : J.turn = 0
 ·rw [if_pos (.inr h0)]
  exact .refused (by show (9 : Int) ≠ 0; decide) rfl rfl
 ·rw [if_neg (by rw [h.unb]; simp; omega)]
  by_cases hu : jFree D J < pagesN s.length
  ·rw [if_pos hu]
   exact .refused (by show (8 : Int) ≠ 0; decide) rfl rfl
  ·rw [if_neg hu]
   have hu2 : J.used + pagesN s.length ≤ half D := by unfold jFree at hu; rw [if_neg h0] at hu; omega
   have hso := h.toFound.sound
   have hps := jPut_sound hso h.nf J.turn (J.records.length + 1) J.used s (by omega) (by omega) hu2
   rcases dWrites_out _ D h.ok h.nf (putAll_ok h.len h.top J.turn (J.records.length + 1) J.used s (by omega) (by omega) hu2) with ⟨f, h1, h2, _, e⟩ | ⟨_, k, _, e⟩
   ·change jPut D J.turn (J.records.length + 1) J.used s = _ at e
    rw [h.pend, List.nil_append] at e
    rw [e] at hps ⊢
    dsimp only
    rw [if_pos rfl]
    obtain ⟨p1, p2⟩ := put_done hso h.nf J.turn (J.records.length + 1) J.used s (by omega) (by omega) hu2 f
    exact .done rfl rfl (append_new h (by omega) s hu2 hps.1.ok hps.2 rfl rfl p1 p2)
   ·change jPut D J.turn (J.records.length + 1) J.used s = _ at e
    rw [h.pend, List.nil_append] at e
    rw [e] at hps ⊢
    dsimp only
    rw [if_neg (by decide)]
    refine .failed (by show (10 : Int) ≠ 0; decide) rfl rfl hps.1 fun q hc => ?_
    have hm := mix_crash hps.1.ok q hc
    obtain ⟨p1, p2⟩ := mix_put hso h.nf J.turn (J.records.length + 1) J.used s (by omega) (by omega) hu2 k hm
    exact append_any h (by omega) s hu2 hm.ok (hm.len.trans hps.2) hm.nf hm.pend p1 p2
theorem save_left {D : DS} {J : JS} (h : Live D J) (s : List UInt8) (ht2 : J.turn + 1 < 2 ^ 39) : Left D J ⟨J.turn + 1, s, [], pagesN s.length, false⟩ (jSave D J s) := by
 have hr := h.used
 have hh := h.halfLe
 unfold jSave
 rw [if_neg (by rw [h.unb]; simp)]
 by_cases hu : half D < pagesN s.length
 ·rw [if_pos hu]
  exact .refused (by show (8 : Int) ≠ 0; decide) rfl rfl
 ·rw [if_neg hu]
  have hu2 : 0 + pagesN s.length ≤ half D := by omega
  have hso := h.toFound.sound
  have hps := jPut_sound hso h.nf (J.turn + 1) 0 0 s (by omega) (by omega) hu2
  unfold jSaved
  rcases dWrites_out _ D h.ok h.nf (putAll_ok h.len h.top (J.turn + 1) 0 0 s (by omega) (by omega) hu2) with ⟨f, h1, h2, _, e⟩ | ⟨_, k, _, e⟩
  ·change jPut D (J.turn + 1) 0 0 s = _ at e
   rw [h.pend, List.nil_append] at e
   rw [e] at hps ⊢
   dsimp only
   rw [if_pos rfl]
   obtain ⟨p1, p2⟩ := put_done hso h.nf (J.turn + 1) 0 0 s (by omega) (by omega) hu2 f
   have hnf : (⟨setAll D.pages (at_ (first D (J.turn + 1) + 0) (prts (J.turn + 1) 0 s)), [], f, false⟩ : DS).failed = false := rfl
   generalize (⟨setAll D.pages (at_ (first D (J.turn + 1) + 0) (prts (J.turn + 1) 0 s)), [], f, false⟩ : DS) = D1 at hps p1 p2 hnf ⊢
   obtain ⟨hs1, hl1⟩ := hps
   dsimp only at hs1 hl1
   have hL : Live D1 J := save_part h s (by omega) hs1.ok hl1 hnf (hs1.pend hnf) p1 (fun p hp => .inl (p2 p hp))
   have hlaid : Laid D1 (J.turn + 1) 0 0 s := fun p hp => by rw [first_eq hl1]; exact p2 p hp
   have hpd := hs1.pend hnf
   have hu1 : pagesN s.length ≤ half D1 := by rw [half_eq hl1]; omega
   have hll : ∀ x ∈ [((J.turn + 1) % 2, hdrPage (J.turn + 1))], x.1 < D1.pages.length ∧ x.2.length = 128 := by
    intro x hx
    obtain rfl : x = ((J.turn + 1) % 2, hdrPage (J.turn + 1)) := by simpa using hx
    exact ⟨by have := hs1.len; dsimp only; omega, hdrPage_len _ (by omega)⟩
   have hws := dWrites_sound hs1 hnf _ hll (by simp)
   rcases dWrites_out _ D1 hs1.ok hnf hll with ⟨f2, g1, g2, _, e2⟩ | ⟨_, k, _, e2⟩
   ·rw [hpd, List.nil_append] at e2
    rw [e2] at hws ⊢
    dsimp only
    rw [if_pos rfl]
    refine .done rfl rfl (save_new hL s hu1 ht2 hlaid hws.1.ok hws.2 rfl rfl (fun n hn => ?_) ?_)
    ·rw [content_calm rfl, content_calm hpd]
     exact setAll_other _ _ _ fun x hx => by
      obtain rfl : x = ((J.turn + 1) % 2, hdrPage (J.turn + 1)) := by simpa using hx
      exact fun e => hn e.symm
    ·rw [content_calm rfl]
     exact setAll_at _ D1.pages (by simp) _ (List.mem_singleton.2 rfl) (hll _ (List.mem_singleton.2 rfl)).1
   ·rw [hpd, List.nil_append] at e2
    rw [e2] at hws ⊢
    dsimp only
    rw [if_neg (by decide)]
    refine .failed (by show (10 : Int) ≠ 0; decide) rfl rfl hws.1 fun q hc => ?_
    have hm := mix_crash hws.1.ok q hc
    dsimp only at hm
    have hln := hm.len.trans hws.2
    have ho : ∀ n, n ≠ (J.turn + 1) % 2 → content (dCrash ⟨D1.pages, List.take k [((J.turn + 1) % 2, hdrPage (J.turn + 1))], 0, true⟩ q) n = content D1 n := fun n hn => by
     rw [hm.other n (fun x hx => by
      obtain rfl : x = ((J.turn + 1) % 2, hdrPage (J.turn + 1)) := by simpa using List.mem_of_mem_take hx
      exact fun e => hn e.symm), content_calm hpd]
    by_cases hx : ((J.turn + 1) % 2, hdrPage (J.turn + 1)) ∈ List.take k [((J.turn + 1) % 2, hdrPage (J.turn + 1))]
    ·rcases hm.each _ hx with h1 | h1 | h1
     ·exact .inr (save_new hL s hu1 ht2 hlaid hm.ok hln hm.nf hm.pend ho h1).toFound
     ·exact .inl (save_old hL hm.ok hln hm.nf hm.pend ho (.inl (by rw [content_calm hpd]; exact h1))).toFound
     ·exact .inl (save_old hL hm.ok hln hm.nf hm.pend ho (.inr (h1.2 (by dsimp only; omega)))).toFound
    ·refine .inl (save_old hL hm.ok hln hm.nf hm.pend ho (.inl ?_)).toFound
     rw [hm.other _ (fun x hx2 => by
      obtain rfl : x = ((J.turn + 1) % 2, hdrPage (J.turn + 1)) := by simpa using List.mem_of_mem_take hx2
      exact fun _ => hx hx2), content_calm hpd]
  ·change jPut D (J.turn + 1) 0 0 s = _ at e
   rw [h.pend, List.nil_append] at e
   rw [e] at hps ⊢
   dsimp only
   rw [if_neg (show ¬ (10 : Int) = 0 by decide)]
   dsimp only
   rw [if_neg (show ¬ (10 : Int) = 0 by decide)]
   refine .failed (by show (10 : Int) ≠ 0; decide) rfl rfl hps.1 fun q hc => ?_
   have hm := mix_crash hps.1.ok q hc
   obtain ⟨p1, p2⟩ := mix_put hso h.nf (J.turn + 1) 0 0 s (by omega) (by omega) hu2 k hm
   exact .inl (save_part h s (by omega) hm.ok (hm.len.trans hps.2) hm.nf hm.pend p1 p2).toFound
end Go.Proofs.YtpadgkkeihhneaaGreat
