/- Opening a journal again: plain law. -/
import Derived.Test.YtpadgkkeihhneaaGreatC35
import Derived.Test.YtpadgkkeihhneaaGreatC21
namespace Go.Proofs.YtpadgkkeihhneaaGreat
set_option maxRecDepth 100000
set_option linter.unusedSimpArgs false
set_option linter.unusedVariables false
theorem blkF_congr {D D' : DS} (hl : D'.pages.length = D.pages.length) (t i a u : Nat) (hk : ∀ k, k < u → content D' (first D t + k) = content D (first D t + k)) :
 ∀ (f p q : Nat) (s r : List UInt8) (n : Nat), blkF D t i a f p q s = some (r, n) → a + n ≤ u → blkF D' t i a f p q s = some (r, n) := by
 intro f
 induction f with
 | zero => intro p q s r n h; cases h
 | succ f ih =>
  intro p q s r n h hu
  have hp := blkF_pos D t i a _ _ _ _ _ _ h
  have hc := hk (a + p) (by omega)
  rw [← Nat.add_assoc] at hc
  unfold blkF at h ⊢
  rw [half_eq hl, first_eq hl, hc]
  by_cases hh : half D ≤ a + p
  ·rw [if_pos hh] at h; cases h
  ·rw [if_neg hh] at h ⊢
   cases hx : prtOf (content D (first D t + a + p)) with
   | none => rw [hx] at h; cases h
   | some x =>
    rw [hx] at h
    change (if _ then _ else _) = _ at h
    show (if _ then _ else _) = _
    by_cases hc : x.turn = t ∧ x.index = i ∧ x.p = p ∧ (p = 0 ∨ x.q = q)
    ·rw [if_pos hc] at h ⊢
     by_cases hlast : p + 1 = x.q
     ·rw [if_pos hlast] at h ⊢; exact h
     ·rw [if_neg hlast] at h ⊢; exact ih _ _ _ _ _ h hu
    ·rw [if_neg hc] at h; cases h
theorem blk_congr {D D' : DS} (hl : D'.pages.length = D.pages.length) (t i a u : Nat) (hk : ∀ k, k < u → content D' (first D t + k) = content D (first D t + k)) {r : List UInt8} {n : Nat} (h : blk D t i a = some (r, n)) (hu : a + n ≤ u) : blk D' t i a = some (r, n) := by
 unfold blk at h ⊢
 rw [half_eq hl]
 exact blkF_congr hl t i a u hk _ _ _ _ _ _ h hu
theorem blk_all {D D' : DS} (hl : D'.pages.length = D.pages.length) (t i a : Nat) (hk : ∀ k, k < half D → content D' (first D t + k) = content D (first D t + k)) : blk D' t i a = blk D t i a := by
 unfold blk
 rw [half_eq hl]
 have : ∀ (f p q : Nat) (s : List UInt8), blkF D' t i a f p q s = blkF D t i a f p q s := by
  intro f
  induction f with
  | zero => intros; rfl
  | succ f ih =>
   intro p q s
   unfold blkF
   rw [half_eq hl, first_eq hl]
   by_cases hh : half D ≤ a + p
   ·rw [if_pos hh, if_pos hh]
   ·rw [if_neg hh, if_neg hh, Nat.add_assoc, hk (a + p) (by omega)]
    simp only [ih]
 exact this _ _ _ _
theorem last_cons (x : List UInt8 × Nat) (l : List (List UInt8 × Nat)) (a : Nat) : (((x :: l).getLast?).map (·.2)).getD a = ((l.getLast?).map (·.2)).getD x.2 := by
 cases l with
 | nil => rfl
 | cons y l => simp [List.getLast?_cons]
theorem blks_le (D : DS) (t : Nat) : ∀ (f i a : Nat), a ≤ half D → a ≤ ((blks D t f i a).getLast?.map (·.2)).getD a ∧ ((blks D t f i a).getLast?.map (·.2)).getD a ≤ half D := by
 intro f
 induction f with
 | zero => intro i a h; exact ⟨Nat.le_refl _, h⟩
 | succ f ih =>
  intro i a h
  unfold blks
  cases hb : blk D t i a with
  | none => exact ⟨Nat.le_refl _, h⟩
  | some x =>
   obtain ⟨s, n⟩ := x
   have hp := blk_pos hb
   have := ih (i + 1) (a + n) hp.2
   show a ≤ ((((s, a + n) :: blks D t f (i + 1) (a + n)).getLast?).map (·.2)).getD a ∧ ((((s, a + n) :: blks D t f (i + 1) (a + n)).getLast?).map (·.2)).getD a ≤ _
   rw [last_cons]
   dsimp only
   omega
theorem blks_congr {D D' : DS} (hl : D'.pages.length = D.pages.length) (t u : Nat) (hk : ∀ k, k < u → content D' (first D t + k) = content D (first D t + k)) (hn : ∀ i, blk D' t i u = none) :
 ∀ (f i a : Nat), a ≤ half D → u = ((blks D t f i a).getLast?.map (·.2)).getD a → blks D' t f i a = blks D t f i a := by
 intro f
 induction f with
 | zero => intros; rfl
 | succ f ih =>
  intro i a ha hu
  unfold blks at hu ⊢
  cases hb : blk D t i a with
  | none =>
   rw [hb] at hu
   have e : u = a := hu
   rw [← e, hn i]
  | some x =>
   obtain ⟨s, n⟩ := x
   have hp := blk_pos hb
   rw [hb] at hu
   change u = ((((s, a + n) :: blks D t f (i + 1) (a + n)).getLast?).map (·.2)).getD a at hu
   rw [last_cons] at hu
   have hle := (blks_le D t f (i + 1) (a + n) hp.2).1
   dsimp only at hu
   rw [← hu] at hle
   rw [blk_congr hl t i a u hk hb hle]
   show (s, a + n) :: blks D' t f (i + 1) (a + n) = (s, a + n) :: blks D t f (i + 1) (a + n)
   rw [ih (i + 1) (a + n) hp.2 hu]
theorem hdrOf_par (n : Nat) (b : List UInt8) : hdrOf n b = 0 ∨ hdrOf n b % 2 = n := by
 unfold hdrOf
 split
 ·rename_i h; exact .inr h.2.1
 ·exact .inl rfl
theorem find1_someG {D : DS} (h : find1 D ≠ 0) : (find1 D = hdrOf 0 (content D 0) ∨ find1 D = hdrOf 1 (content D 1)) ∧ (blk D (find1 D) 0 0).isSome = true := by
 unfold find1 at h ⊢
 split
 ·rename_i hc; exact ⟨.inr rfl, hc.2⟩
 ·rename_i hc
  rw [if_neg hc] at h
  unfold find0 at h ⊢
  split
  ·rename_i h2; exact ⟨.inl rfl, h2.2⟩
  ·rename_i h2; rw [if_neg h2] at h; exact absurd rfl h
theorem jFind_used {D : DS} : (jFind D).used ≤ half D := by
 unfold jFind
 split
 ·exact Nat.zero_le _
 ·exact (blks_le D (find1 D) (half D) 0 0 (Nat.zero_le _)).2
theorem wiped_find {D D' : DS} (h8 : 8 ≤ D.pages.length) (h0 : find1 D ≠ 0) (k : Wiped D D' (find1 D) (jFind D).used) : find1 D' = find1 D ∧ blocks D' (find1 D) = blocks D (find1 D) ∧ stale D' (find1 D) (jFind D).used = false := by
 obtain ⟨hor, hbl⟩ := find1_someG h0
 have hused : (jFind D).used = ((blocks D (find1 D)).getLast?.map (·.2)).getD 0 := by unfold jFind; rw [if_neg h0]
 have huh : (jFind D).used ≤ half D := jFind_used
 have hh := half_low D h8
 have hfl := first_lo D (find1 D)
 have hc0 : content D' 0 = content D 0 := k.same 0 (by omega)
 have hc1 : content D' 1 = content D 1 := k.same 1 (by omega)
 have hkk : ∀ j, j < (jFind D).used → content D' (first D (find1 D) + j) = content D (first D (find1 D) + j) := fun j hj => k.same _ (by omega)
 have hcl : Clean D' (find1 D) (jFind D).used := fun j h1 h2 x hx e => by
  rw [half_eq k.len] at h2
  rw [first_eq k.len, k.zero j h1 h2] at hx
  have := prtOf_turn0 hx
  omega
 have hbt : (blk D' (find1 D) 0 0).isSome = true := by
  obtain ⟨⟨s, n⟩, hb⟩ := Option.isSome_iff_exists.1 hbl
  have hle : 0 + n ≤ (jFind D).used := by
   rw [hused]
   unfold blocks
   obtain ⟨f, hf⟩ : ∃ f, half D = f + 1 := ⟨half D - 1, by omega⟩
   rw [hf]
   unfold blks
   rw [hb]
   show 0 + n ≤ ((((s, 0 + n) :: blks D (find1 D) f (0 + 1) (0 + n)).getLast?).map (·.2)).getD 0
   rw [last_cons]
   exact (blks_le D (find1 D) f (0 + 1) (0 + n) (blk_pos hb).2).1
  rw [blk_congr k.len (find1 D) 0 0 _ hkk hb hle]
  rfl
 have hv : ∀ v, v % 2 ≠ find1 D % 2 → blk D' v 0 0 = blk D v 0 0 := fun v hv => blk_all k.len v 0 0 fun j hj => k.same _ (by
  unfold first
  rcases Nat.mod_two_eq_zero_or_one (find1 D) with e | e
  ·rw [e, show v % 2 = 1 by omega]; omega
  ·rw [e, show v % 2 = 0 by omega]; omega)
 refine ⟨?_, ?_, stale_clean hcl⟩
 ·have p0 := hdrOf_par 0 (content D 0)
  have p1 := hdrOf_par 1 (content D 1)
  have e0 : 0 < hdrOf 0 (content D 0) → (blk D' (hdrOf 0 (content D 0)) 0 0).isSome = (blk D (hdrOf 0 (content D 0)) 0 0).isSome := fun hp => by
   by_cases e : find1 D = hdrOf 0 (content D 0)
   ·rw [← e, hbt, hbl]
   ·have e1 := hor.resolve_left e
    rw [hv _ (by omega)]
  have e1 : 0 < hdrOf 1 (content D 1) → (blk D' (hdrOf 1 (content D 1)) 0 0).isSome = (blk D (hdrOf 1 (content D 1)) 0 0).isSome := fun hp => by
   by_cases e : find1 D = hdrOf 1 (content D 1)
   ·rw [← e, hbt, hbl]
   ·have e1 := hor.resolve_right e
    rw [hv _ (by omega)]
  have f0 : find0 D' = find0 D := by
   unfold find0
   rw [hc0]
   by_cases hp : 0 < hdrOf 0 (content D 0)
   ·rw [e0 hp]
   ·rw [if_neg (fun h => hp h.1), if_neg (fun h => hp h.1)]
  unfold find1
  rw [f0, hc1]
  by_cases hp : 0 < hdrOf 1 (content D 1)
  ·rw [e1 hp]
  ·rw [if_neg (fun h => hp (by omega)), if_neg (fun h => hp (by omega))]
 ·unfold blocks
  rw [half_eq k.len]
  exact blks_congr k.len (find1 D) (jFind D).used hkk (fun i => blk_clean D' (find1 D) i _ hcl) (half D) 0 0 (Nat.zero_le _) (by rw [hused]; rfl)
theorem open_code {D : DS} (h : Sound D) (hf : D.failed = false) : (∃ D', jOpen D = (jFind D, D', 0) ∧ Sound D' ∧ D'.failed = false ∧ D'.pages.length = D.pages.length ∧ jOpen D' = (jFind D, D', 0)) ∨ (D.fuse ≠ -1 ∧ ∃ L, (∀ x ∈ L, x.1 < D.pages.length ∧ x.2.length = 128) ∧ L.length ≤ 5000 ∧ jOpen D = (jFind D, ⟨D.pages, L, 0, true⟩, 10)) := by
 have h8 := h.len
 have hopen : ∀ E : DS, 8 ≤ E.pages.length → E.failed = false → jOpen E = if find1 E = 0 then (jFind E, E, 0) else (jFind E, erase E (find1 E) (jFind E).used) := fun E e8 ef => by
  unfold jOpen
  rw [if_neg (by omega), if_neg (by rw [ef]; simp)]
  by_cases h0 : find1 E = 0
  ·rw [if_pos h0, if_pos h0]; unfold jFind; rw [if_pos h0]
  ·rw [if_neg h0, if_neg h0]
 have e := hopen D h8 hf
 by_cases h0 : find1 D = 0
 ·rw [if_pos h0] at e
  exact .inl ⟨D, e, h, hf, rfl, e⟩
 ·rw [if_neg h0] at e
  rcases erase_out h hf (find1 D) (jFind D).used jFind_used with ⟨D', e2, hw, _⟩ | ⟨hz, L, h1, h2, e2⟩
  ·rw [e2] at e
   rcases hw with ⟨rfl, _⟩ | ⟨hw, hs⟩
   ·exact .inl ⟨D', e, h, hf, rfl, e⟩
   ·obtain ⟨w1, w2, w3⟩ := wiped_find h8 h0 hw
    have hj : jFind D' = jFind D := by
     unfold jFind
     rw [w1, w2]
    refine .inl ⟨D', e, hs, hw.nf, hw.len, ?_⟩
    rw [hopen D' (by rw [hw.len]; exact h8) hw.nf, w1, if_neg h0, hj]
    unfold erase
    rw [w3]
    rfl
  ·rw [e2] at e
   exact .inr ⟨hz, L, h1, h2, e⟩
/-- The law's open never fails, and what it leaves is left alone by another Open. -/
theorem reopen_any {D : DS} (h : Sound D) : ∃ J D', reopen D = (J, D', 0) ∧ Sound D' ∧ D'.failed = false ∧ D'.pages.length = D.pages.length ∧ jOpen D' = (J, D', 0) := by
 have key : ∀ E : DS, Sound E → E.failed = false → ∃ J D', (if (jOpen E).2.2 = 0 then jOpen E else jOpen (dCrash (jOpen E).2.1 [])) = (J, D', 0) ∧ Sound D' ∧ D'.failed = false ∧ D'.pages.length = E.pages.length ∧ jOpen D' = (J, D', 0) := by
  intro E hE ef
  rcases open_code hE ef with ⟨D', e, h1, h2, h3, h4⟩ | ⟨hz, L, h1, h2, e⟩
  ·exact ⟨_, D', by rw [e, if_pos rfl], h1, h2, h3, h4⟩
  ·rw [e, if_neg (by show ¬ (10 : Int) = 0; decide)]
   have hok : (⟨E.pages, L, 0, true⟩ : DS).Ok := ⟨hE.ok.pages, h1, by show -1 ≤ (0 : Int) ∧ (0 : Int) ≤ 9223372036854775807; omega⟩
   show ∃ J D', jOpen (dCrash ⟨E.pages, L, 0, true⟩ []) = _ ∧ _
   rw [crash_nil hok]
   have hs2 : Sound (⟨E.pages, [], -1, false⟩ : DS) := ⟨⟨hE.ok.pages, (fun w hw => by cases hw), by show -1 ≤ (-1 : Int) ∧ (-1 : Int) ≤ 9223372036854775807; omega⟩, hE.len, hE.top, fun _ => rfl, Nat.zero_le _⟩
   rcases open_code hs2 rfl with ⟨D', e, h1, h2, h3, h4⟩ | ⟨hz, _⟩
   ·exact ⟨_, D', e, h1, h2, h3, h4⟩
   ·exact absurd rfl hz
 unfold reopen
 cases hf : D.failed with
 | false => exact key D h hf
 | true =>
  obtain ⟨hs, hl⟩ := sound_crash h []
  obtain ⟨J, D', h1, h2, h3, h4, h5⟩ := key (dCrash D []) hs rfl
  exact ⟨J, D', h1, h2, h3, h4.trans hl, h5⟩
end Go.Proofs.YtpadgkkeihhneaaGreat
