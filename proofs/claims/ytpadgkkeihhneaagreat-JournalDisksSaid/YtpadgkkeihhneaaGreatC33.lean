/- A journal on a disk that does not fail: what was saved and appended is found again. -/
import Derived.Test.YtpadgkkeihhneaaGreatC03
namespace Go.Proofs.YtpadgkkeihhneaaGreat
set_option maxRecDepth 100000
set_option linter.unusedSimpArgs false
set_option linter.unusedVariables false
/-- Nothing waits, nothing will fail. -/
structure Calm (D : DS) : Prop where
 ok : D.Ok
 nf : D.failed = false
 fuse : D.fuse = -1
 pend : D.pend = []
theorem content_calm {D : DS} (h : D.pend = []) (n : Nat) : content D n = D.pages.getD n [] := by
 unfold content hist; rw [h]; rfl
def setAll (ps : List (List UInt8)) (l : List (Nat × List UInt8)) : List (List UInt8) := l.foldl (fun ps x => ps.set x.1 x.2) ps
theorem setAll_len (l : List (Nat × List UInt8)) (ps : List (List UInt8)) : (setAll ps l).length = ps.length := by
 induction l generalizing ps with
 | nil => rfl
 | cons x l ih => show (setAll (ps.set x.1 x.2) l).length = _; rw [ih, List.length_set]
theorem setAll_other (l : List (Nat × List UInt8)) (ps : List (List UInt8)) (n : Nat) (h : ∀ x ∈ l, x.1 ≠ n) : (setAll ps l).getD n [] = ps.getD n [] := by
 induction l generalizing ps with
 | nil => rfl
 | cons x l ih =>
  show (setAll (ps.set x.1 x.2) l).getD n [] = _
  rw [ih _ (fun y hy => h y (by simp [hy])), List.getD_eq_getElem?_getD, List.getD_eq_getElem?_getD, List.getElem?_set_ne (h x (by simp))]
theorem setAll_at (l : List (Nat × List UInt8)) (ps : List (List UInt8)) (hd : l.Pairwise (fun x y => x.1 ≠ y.1)) (x : Nat × List UInt8) (hx : x ∈ l) (hl : x.1 < ps.length) : (setAll ps l).getD x.1 [] = x.2 := by
 induction l generalizing ps with
 | nil => cases hx
 | cons y l ih =>
  show (setAll (ps.set y.1 y.2) l).getD x.1 [] = _
  have hp := List.pairwise_cons.1 hd
  rcases List.mem_cons.1 hx with rfl | hx
  ·rw [setAll_other l _ _ (fun z hz => (hp.1 z hz).symm), List.getD_eq_getElem?_getD, List.getElem?_set_self hl]; rfl
  ·exact ih _ hp.2 hx (by rw [List.length_set]; exact hl)
theorem settle_setAll (ws : List (Nat × List UInt8)) (i : Nat) (ps : List (List UInt8)) (hp : ∀ p ∈ ps, p.length = 128) (hw : ∀ w ∈ ws, w.1 < ps.length ∧ w.2.length = 128) : settleFrom (fun _ => 128) i ws ps = setAll ps ws := by
 induction ws generalizing i ps with
 | nil => rfl
 | cons w ws ih =>
  have h1 := hw w (by simp)
  have hg : (ps.getD w.1 []).length = 128 := by
   rw [List.getD_eq_getElem?_getD, List.getElem?_eq_getElem h1.1]
   exact hp _ (List.getElem_mem _)
  have e : mixed (ps.getD w.1 []) w.2 128 = w.2 := by
   unfold mixed
   show w.2.take 128 ++ (ps.getD w.1 []).drop 128 = w.2
   rw [List.take_of_length_le (by omega), List.drop_eq_nil_of_le (by omega), List.append_nil]
  show settleFrom (fun _ => 128) (i + 1) ws (ps.set w.1 (mixed (ps.getD w.1 []) w.2 128)) = setAll (ps.set w.1 w.2) ws
  rw [e]
  exact ih (i + 1) _ (fun p hp' => by
   rcases List.mem_or_eq_of_mem_set hp' with hp' | hp'
   ·exact hp p hp'
   ·rw [hp']; exact h1.2) (fun x hx => by rw [List.length_set]; exact hw x (by simp [hx]))
theorem calm_writes (l : List (Nat × List UInt8)) (D : DS) (h1 : D.failed = false) (h2 : D.fuse = -1) (hl : ∀ x ∈ l, x.1 < D.pages.length ∧ x.2.length = 128) : dWrites D l = dSync { D with pend := D.pend ++ l } := by
 induction l generalizing D with
 | nil => show dSync D = _; rw [List.append_nil]
 | cons x l ih =>
  obtain ⟨n, b⟩ := x
  have hx := hl (n, b) (by simp)
  have hb : dBurn D = (D, 0) := by unfold dBurn; rw [h2]; rfl
  have ht : thereB D (n : Int) = true := (thereB_iff D n).2 (by have := hx.1; dsimp only at this; omega)
  have e : dWrite D n b = ({ D with pend := D.pend ++ [(n, b)] }, 0) := by
   unfold dWrite
   rw [if_neg (by rw [h1]; simp), if_neg (by simpa using hx.2), if_neg (by rw [ht]; simp), hb]
   rfl
  unfold dWrites
  rw [e, if_pos rfl]
  rw [ih { D with pend := D.pend ++ [(n, b)] } h1 h2 (fun y hy => hl y (by simp [hy]))]
  simp
/-- Pages written one after the other to a calm disk. -/
theorem dWrites_calm {D : DS} (hc : Calm D) (l : List (Nat × List UInt8)) (hl : ∀ x ∈ l, x.1 < D.pages.length ∧ x.2.length = 128) :
 dWrites D l = ({ D with pages := setAll D.pages l }, 0) ∧ Calm { D with pages := setAll D.pages l } := by
 have e := calm_writes l D hc.nf hc.fuse hl
 rw [hc.pend, List.nil_append] at e
 have hb : dBurn { D with pend := l } = ({ D with pend := l }, 0) := by unfold dBurn; dsimp only; rw [hc.fuse]; rfl
 have hs := settle_setAll l 0 D.pages hc.ok.pages hl
 have e2 : dSync { D with pend := l } = ({ D with pages := setAll D.pages l }, 0) := by
  unfold dSync
  rw [if_neg (by dsimp only; rw [hc.nf]; simp), hb, if_pos rfl]
  unfold dSettle
  dsimp only
  rw [hs, ← hc.pend]
 refine ⟨e.trans e2, ⟨⟨?_, ?_, hc.ok.fuse⟩, hc.nf, hc.fuse, hc.pend⟩⟩
 ·have := (settleFrom_ok (fun _ => 128) 0 l D.pages hc.ok.pages hl).2
  rw [hs] at this
  exact this
 ·intro w hw
  have hw' : w ∈ D.pend := hw
  rw [hc.pend] at hw'
  cases hw'
theorem at_mem (a : Nat) (l : List (List UInt8)) (x : Nat × List UInt8) : x ∈ at_ a l ↔ ∃ k, k < l.length ∧ x = (a + k, l.getD k []) := by
 unfold at_
 simp only [List.mem_map, List.mem_range]
 exact ⟨fun ⟨k, h1, h2⟩ => ⟨k, h1, h2.symm⟩, fun ⟨k, h1, h2⟩ => ⟨k, h1, h2.symm⟩⟩
theorem at_pair (a : Nat) (l : List (List UInt8)) : (at_ a l).Pairwise (fun x y => x.1 ≠ y.1) := by
 unfold at_
 rw [List.pairwise_map]
 exact List.Pairwise.imp (fun h => by dsimp only; omega) List.pairwise_lt_range
/-! ### What is laid -/
def Prt.one (t i p : Nat) (s : List UInt8) : Prt := ⟨t, i, p, pagesN s.length, (s.drop (p * 96)).take 96⟩
theorem prts_length (t i : Nat) (s : List UInt8) : (prts t i s).length = pagesN s.length := by unfold prts; rw [List.length_map, List.length_range]
theorem prts_getD (t i : Nat) (s : List UInt8) (k : Nat) (h : k < pagesN s.length) : (prts t i s).getD k [] = prtPage (Prt.one t i k s) := by
 unfold prts
 rw [List.getD_eq_getElem?_getD, List.getElem?_map, List.getElem?_range h]
 rfl
theorem Prt.one_fit (t i p : Nat) (s : List UInt8) (ht : t < 2 ^ 40) (hi : i < 2 ^ 40) (hp : p < pagesN s.length) (hs : pagesN s.length ≤ 4096) : (Prt.one t i p s).fit = true ∧ (Prt.one t i p s).full = true := by
 constructor
 ·refine (Prt.fits _).2 ⟨ht, hi, ?_, hs, hp, ?_⟩
  ·show 1 ≤ pagesN s.length; omega
  ·show ((s.drop (p * 96)).take 96).length ≤ 96
   rw [List.length_take]; omega
 ·refine (Prt.fulls _).2 ?_
  show (p + 1 = pagesN s.length ∨ ((s.drop (p * 96)).take 96).length = 96) ∧ (0 < ((s.drop (p * 96)).take 96).length ∨ pagesN s.length = 1)
  rw [List.length_take, List.length_drop]
  unfold pagesN at hp ⊢
  omega
theorem prtOf_one (t i p : Nat) (s : List UInt8) (ht : t < 2 ^ 40) (hi : i < 2 ^ 40) (hp : p < pagesN s.length) (hs : pagesN s.length ≤ 4096) : prtOf (prtPage (Prt.one t i p s)) = some (Prt.one t i p s) := by
 have h := Prt.one_fit t i p s ht hi hp hs
 exact prtOf_page _ h.1 h.2
theorem prt_one_len (t i p : Nat) (s : List UInt8) (ht : t < 2 ^ 40) (hi : i < 2 ^ 40) (hp : p < pagesN s.length) (hs : pagesN s.length ≤ 4096) : (prtPage (Prt.one t i p s)).length = 128 :=
 prtPage_len _ (Prt.small_of (Prt.one_fit t i p s ht hi hp hs).1)
/-- The pages of one block. -/
def Laid (D : DS) (t i a : Nat) (s : List UInt8) : Prop := ∀ p, p < pagesN s.length → content D (first D t + a + p) = prtPage (Prt.one t i p s)
/-- The blocks of a turn from an index and a page on, up to a page. -/
def Lay (D : DS) (t : Nat) : Nat → Nat → List (List UInt8) → Nat → Prop
 | _, a, [], u => a = u
 | i, a, s :: l, u => Laid D t i a s ∧ a + pagesN s.length ≤ half D ∧ Lay D t (i + 1) (a + pagesN s.length) l u
def ends : Nat → List (List UInt8) → List (List UInt8 × Nat)
 | _, [] => []
 | a, s :: l => (s, a + pagesN s.length) :: ends (a + pagesN s.length) l
theorem pagesN_posG (n : Nat) : 1 ≤ pagesN n := by unfold pagesN; omega
theorem blkF_laid (D : DS) (t i a : Nat) (s : List UInt8) (ht : t < 2 ^ 40) (hi : i < 2 ^ 40) (hs : pagesN s.length ≤ 4096) (ha : a + pagesN s.length ≤ half D) (h : Laid D t i a s) (f p q : Nat) (hp : p < pagesN s.length) (hf : pagesN s.length ≤ f + p) (hq : p = 0 ∨ q = pagesN s.length) :
 blkF D t i a f p q (s.take (p * 96)) = some (s, pagesN s.length) := by
 induction f generalizing p q with
 | zero => omega
 | succ f ih =>
  unfold blkF
  rw [if_neg (by omega), h p hp, prtOf_one t i p s ht hi hp hs]
  have hc : (Prt.one t i p s).turn = t ∧ (Prt.one t i p s).index = i ∧ (Prt.one t i p s).p = p ∧ (p = 0 ∨ (Prt.one t i p s).q = q) := ⟨rfl, rfl, rfl, hq.imp id fun e => e.symm⟩
  show (if _ then _ else _) = _
  rw [if_pos hc]
  have e : s.take (p * 96) ++ (Prt.one t i p s).text = s.take ((p + 1) * 96) := by
   show s.take (p * 96) ++ (s.drop (p * 96)).take 96 = _
   rw [show (p + 1) * 96 = p * 96 + 96 by omega, List.take_add]
  rw [e, show (Prt.one t i p s).q = pagesN s.length from rfl]
  by_cases hl : p + 1 = pagesN s.length
  ·rw [if_pos hl, List.take_of_length_le (by rw [hl]; unfold pagesN; omega)]
  ·rw [if_neg hl]
   exact ih (p + 1) _ (by omega) (by omega) (.inr rfl)
theorem blk_laid (D : DS) (t i a : Nat) (s : List UInt8) (ht : t < 2 ^ 40) (hi : i < 2 ^ 40) (hh : half D ≤ 4096) (ha : a + pagesN s.length ≤ half D) (h : Laid D t i a s) : blk D t i a = some (s, pagesN s.length) := by
 have := pagesN_posG s.length
 have e := blkF_laid D t i a s ht hi (by omega) ha h (half D - a) 0 1 (by omega) (by omega) (.inl rfl)
 exact e
/-- No page of the turn from a page of its half on. -/
def Clean (D : DS) (t u : Nat) : Prop := ∀ k, u ≤ k → k < half D → ∀ x, prtOf (content D (first D t + k)) = some x → x.turn ≠ t
theorem blk_clean (D : DS) (t i u : Nat) (h : Clean D t u) : blk D t i u = none := by
 unfold blk
 cases hf : half D - u with
 | zero => rfl
 | succ f =>
  unfold blkF
  rw [if_neg (by omega)]
  have := h u (Nat.le_refl u) (by omega)
  cases hx : prtOf (content D (first D t + u + 0)) with
  | none => rfl
  | some x =>
   show (if _ then _ else _) = _
   rw [if_neg fun hc => this x hx hc.1]
theorem blks_lay (D : DS) (t : Nat) (l : List (List UInt8)) (u : Nat) (ht : t < 2 ^ 40) (hh : half D ≤ 4096) (hc : Clean D t u) (f i a : Nat) (hi : i + l.length < 2 ^ 40) (hf : half D ≤ f + a) (h : Lay D t i a l u) : blks D t f i a = ends a l := by
 induction l generalizing f i a with
 | nil =>
  have e : a = u := h
  subst e
  cases f with
  | zero => rfl
  | succ f => unfold blks; rw [blk_clean D t i a hc]; rfl
 | cons s l ih =>
  obtain ⟨h1, h2, h3⟩ := h
  have := pagesN_posG s.length
  rw [List.length_cons] at hi
  cases f with
  | zero => omega
  | succ f =>
   unfold blks
   rw [blk_laid D t i a s ht (by omega) hh h2 h1]
   show (s, a + pagesN s.length) :: blks D t f (i + 1) (a + pagesN s.length) = _
   rw [ih f (i + 1) (a + pagesN s.length) (by omega) (by omega) h3]
   rfl
theorem ends_fst (a : Nat) (l : List (List UInt8)) : (ends a l).map (·.1) = l := by
 induction l generalizing a with
 | nil => rfl
 | cons s l ih => show s :: (ends _ l).map (·.1) = _; rw [ih]
theorem ends_last (D : DS) (t i a : Nat) (s : List UInt8) (l : List (List UInt8)) (u : Nat) (h : Lay D t i a (s :: l) u) : ((ends a (s :: l)).getLast?.map (·.2)).getD 0 = u := by
 induction l generalizing i a s with
 | nil => exact h.2.2
 | cons s2 l ih =>
  have := ih (i + 1) (a + pagesN s.length) s2 h.2.2
  show (((s, a + pagesN s.length) :: ends (a + pagesN s.length) (s2 :: l)).getLast?.map (·.2)).getD 0 = u
  rw [← this]
  rfl
/-- The disk has the journal, and nothing that is newer. -/
structure Good (D : DS) (J : JS) : Prop where
 len : 8 ≤ D.pages.length
 top : D.pages.length ≤ 4096
 nf : D.failed = false
 unb : J.broken = false
 zero : J.turn = 0 → J = js0
 turn : J.turn < 2 ^ 40
 recs : J.records.length + 1 < 2 ^ 40
 h0 : J.turn % 2 = 0 → hdrOf 0 (content D 0) = J.turn ∧ (hdrOf 1 (content D 1) < J.turn ∨ J.turn = 0 ∧ hdrOf 1 (content D 1) = 0)
 h1 : J.turn % 2 = 1 → hdrOf 1 (content D 1) = J.turn ∧ hdrOf 0 (content D 0) < J.turn
 lay : 0 < J.turn → Lay D J.turn 0 0 (J.state :: J.records) J.used
 new : ∀ n, 2 ≤ n → n < D.pages.length → ∀ x, prtOf (content D n) = some x → x.turn ≤ J.turn
 clean : 0 < J.turn → Clean D J.turn J.used
theorem half_low (D : DS) (h : 8 ≤ D.pages.length) : 3 ≤ half D ∧ 2 + half D + half D ≤ D.pages.length := by unfold half; omega
theorem find1_good {D : DS} {J : JS} (h : Good D J) : find1 D = J.turn := by
 by_cases h0 : J.turn = 0
 ·obtain ⟨a, b⟩ := h.h0 (by omega)
  have f0 : find0 D = 0 := by unfold find0; rw [if_neg (by omega)]
  unfold find1
  rw [f0, if_neg (by omega), h0]
 ·have hl := h.lay (by omega)
  have hh : half D ≤ 4096 := by have := h.top; unfold half; omega
  have hb := blk_laid D J.turn 0 0 J.state h.turn (by omega) hh hl.2.1 hl.1
  rcases Nat.mod_two_eq_zero_or_one J.turn with hm | hm
  ·obtain ⟨a, b⟩ := h.h0 hm
   have f0 : find0 D = J.turn := by unfold find0; rw [a, if_pos ⟨by omega, by rw [hb]; rfl⟩]
   unfold find1
   rw [f0, if_neg (by omega)]
  ·obtain ⟨a, b⟩ := h.h1 hm
   have f0 : find0 D < J.turn := by unfold find0; split <;> omega
   unfold find1
   rw [a, if_pos ⟨f0, by rw [hb]; rfl⟩]
theorem blocks_good {D : DS} {J : JS} (h : Good D J) (h0 : 0 < J.turn) : blocks D J.turn = ends 0 (J.state :: J.records) :=
 blks_lay D J.turn (J.state :: J.records) J.used h.turn (by have := h.top; unfold half; omega) (h.clean h0) (half D) 0 0 (by have := h.recs; rw [List.length_cons]; omega) (by omega) (h.lay h0)
theorem jFind_good {D : DS} {J : JS} (h : Good D J) : jFind D = J := by
 unfold jFind
 rw [find1_good h]
 by_cases h0 : J.turn = 0
 ·rw [if_pos h0, h.zero h0]
 ·rw [if_neg h0, blocks_good h (by omega), ends_last D J.turn 0 0 J.state J.records J.used (h.lay (by omega))]
  have e : (ends 0 (J.state :: J.records)).tail.map (·.1) = J.records := by
   rw [List.map_tail, ends_fst]; rfl
  rw [e]
  have e2 : ((ends 0 (J.state :: J.records)).head?.map (·.1)).getD [] = J.state := rfl
  rw [e2]
  have := h.unb
  cases J
  simp_all
theorem stale_clean {D : DS} {t u : Nat} (h : Clean D t u) : stale D t u = false := by
 unfold stale
 rw [List.any_eq_false]
 intro k hk
 have hk := List.mem_range.1 hk
 have := h (u + k) (by omega) (by omega)
 rw [← Nat.add_assoc] at this
 cases hx : prtOf (content D (first D t + u + k)) with
 | none => simp
 | some x => simpa using this x hx
/-- Open finds the journal and leaves the disk alone. -/
theorem jOpen_good {D : DS} {J : JS} (h : Good D J) : jOpen D = (J, D, 0) := by
 unfold jOpen
 have := h.len
 rw [if_neg (by omega), if_neg (by rw [h.nf]; simp), find1_good h]
 by_cases h0 : J.turn = 0
 ·rw [if_pos h0, h.zero h0]
 ·rw [if_neg h0, jFind_good h]
  unfold erase
  rw [stale_clean (h.clean (by omega))]
  rfl
/-! ### Writing -/
theorem first_lo (D : DS) (t : Nat) : 2 ≤ first D t := by unfold first; omega
theorem first_hiG (D : DS) (t : Nat) (h : 8 ≤ D.pages.length) : first D t + half D ≤ D.pages.length := by
 have := half_low D h
 unfold first
 rcases Nat.mod_two_eq_zero_or_one t with e | e <;> rw [e] <;> omega
/-- A block put on a calm disk. -/
theorem jPut_calm {D : DS} (hc : Calm D) (h8 : 8 ≤ D.pages.length) (h4 : D.pages.length ≤ 4096) (t i a : Nat) (s : List UInt8) (ht : t < 2 ^ 40) (hi : i < 2 ^ 40) (ha : a + pagesN s.length ≤ half D) :
 ∃ D', jPut D t i a s = (D', 0) ∧ Calm D' ∧ D'.pages.length = D.pages.length ∧ Laid D' t i a s ∧ ∀ n, (n < first D t + a ∨ first D t + a + pagesN s.length ≤ n) → content D' n = content D n := by
 have hh : half D ≤ 4096 := by unfold half; omega
 have hf := first_hiG D t h8
 have hl : ∀ x ∈ at_ (first D t + a) (prts t i s), x.1 < D.pages.length ∧ x.2.length = 128 := by
  intro x hx
  obtain ⟨k, hk, rfl⟩ := (at_mem _ _ _).1 hx
  rw [prts_length] at hk
  refine ⟨by dsimp only; omega, ?_⟩
  dsimp only
  rw [prts_getD t i s k hk]
  exact prt_one_len t i k s ht hi hk (by omega)
 obtain ⟨e, c⟩ := dWrites_calm hc (at_ (first D t + a) (prts t i s)) hl
 refine ⟨_, e, c, setAll_len _ _, ?_, ?_⟩
 ·intro p hp
  have e1 : first { D with pages := setAll D.pages (at_ (first D t + a) (prts t i s)) } t = first D t := by unfold first half; dsimp only; rw [setAll_len]
  rw [e1, content_calm c.pend]
  have hm : (first D t + a + p, (prts t i s).getD p []) ∈ at_ (first D t + a) (prts t i s) := (at_mem _ _ _).2 ⟨p, by rw [prts_length]; exact hp, rfl⟩
  have := setAll_at _ D.pages (at_pair _ _) _ hm (hl _ hm).1
  dsimp only at this ⊢
  rw [this, prts_getD t i s p hp]
 ·intro n hn
  rw [content_calm c.pend, content_calm hc.pend]
  refine setAll_other _ _ _ fun x hx => ?_
  obtain ⟨k, hk, rfl⟩ := (at_mem _ _ _).1 hx
  rw [prts_length] at hk
  dsimp only
  omega
theorem half_eq {D D' : DS} (h : D'.pages.length = D.pages.length) : half D' = half D := by unfold half; rw [h]
theorem first_eq {D D' : DS} (h : D'.pages.length = D.pages.length) (t : Nat) : first D' t = first D t := by unfold first; rw [half_eq h]
theorem Laid.keep {D D' : DS} {t i a : Nat} {s : List UInt8} (h : Laid D t i a s) (hl : D'.pages.length = D.pages.length) (hk : ∀ k, k < pagesN s.length → content D' (first D t + a + k) = content D (first D t + a + k)) : Laid D' t i a s := by
 intro p hp
 rw [first_eq hl, hk p hp]
 exact h p hp
theorem Lay.le {D : DS} {t i a : Nat} {l : List (List UInt8)} {u : Nat} (h : Lay D t i a l u) : a ≤ u := by
 induction l generalizing i a with
 | nil => exact Nat.le_of_eq h
 | cons s l ih => have := ih h.2.2; omega
theorem Lay.keep {D D' : DS} {t i a : Nat} {l : List (List UInt8)} {u : Nat} (h : Lay D t i a l u) (hl : D'.pages.length = D.pages.length) (hk : ∀ k, k < u → content D' (first D t + k) = content D (first D t + k)) : Lay D' t i a l u := by
 induction l generalizing i a with
 | nil => exact h
 | cons s l ih =>
  have := Lay.le h.2.2
  exact ⟨h.1.keep hl fun k hk' => by rw [Nat.add_assoc]; exact hk _ (by omega), by rw [half_eq hl]; exact h.2.1, ih h.2.2⟩
theorem Lay.snoc {D : DS} {t i a : Nat} {l : List (List UInt8)} {u : Nat} (s : List UInt8) (h : Lay D t i a l u) (hs : Laid D t (i + l.length) u s) (hu : u + pagesN s.length ≤ half D) : Lay D t i a (l ++ [s]) (u + pagesN s.length) := by
 induction l generalizing i a with
 | nil => obtain rfl : a = u := h; exact ⟨hs, hu, rfl⟩
 | cons s2 l ih => exact ⟨h.1, h.2.1, ih h.2.2 (by rw [List.length_cons] at hs; rwa [show i + 1 + l.length = i + (l.length + 1) by omega])⟩
theorem Lay.used_le {D : DS} {t i a : Nat} {s : List UInt8} {l : List (List UInt8)} {u : Nat} (h : Lay D t i a (s :: l) u) : a < u ∧ u ≤ half D := by
 induction l generalizing i a s with
 | nil => have h2 := h.2.1; have h3 : a + pagesN s.length = u := h.2.2; have := pagesN_posG s.length; omega
 | cons s2 l ih => have := ih h.2.2; have := pagesN_posG s.length; omega
theorem jAppend_good {D : DS} {J : JS} (hc : Calm D) (h : Good D J) (s : List UInt8) (h0 : 0 < J.turn) (hu : J.used + pagesN s.length ≤ half D) (hr : J.records.length + 2 < 2 ^ 40) :
 ∃ D', jAppend D J s = (D', { J with records := J.records ++ [s], used := J.used + pagesN s.length }, 0) ∧ Calm D' ∧ D'.pages.length = D.pages.length ∧ Good D' { J with records := J.records ++ [s], used := J.used + pagesN s.length } := by
 obtain ⟨D', e, c, hl, hs, hk⟩ := jPut_calm hc h.len h.top J.turn (J.records.length + 1) J.used s h.turn (by omega) hu
 have hlay := h.lay h0
 have hf := first_lo D J.turn
 have hp := pagesN_posG s.length
 have hh : half D ≤ 4096 := by have := h.top; unfold half; omega
 refine ⟨D', ?_, c, hl, ⟨by rw [hl]; exact h.len, by rw [hl]; exact h.top, c.nf, h.unb, fun e0 => absurd e0 (by dsimp only; omega), h.turn, by dsimp only; rw [List.length_append, List.length_singleton]; omega, ?_, ?_, ?_, ?_, ?_⟩⟩
 ·unfold jAppend
  rw [if_neg (by rw [h.unb]; simp; omega), if_neg (by unfold jFree; rw [if_neg (by omega)]; omega), e, if_pos rfl]
 ·intro hm
  rw [hk 0 (by omega), hk 1 (by omega)]
  exact h.h0 hm
 ·intro hm
  rw [hk 0 (by omega), hk 1 (by omega)]
  exact h.h1 hm
 ·intro _
  have hkeep := hlay.keep hl (fun k hk' => hk _ (by omega))
  have := hkeep.snoc s (by rw [List.length_cons, Nat.zero_add]; exact hs) (by rw [half_eq hl]; exact hu)
  exact this
 ·intro n h2 hn x hx
  show x.turn ≤ J.turn
  by_cases hi : n < first D J.turn + J.used ∨ first D J.turn + J.used + pagesN s.length ≤ n
  ·rw [hk n hi] at hx
   exact h.new n h2 (by rw [← hl]; exact hn) x hx
  ·have := hs (n - (first D J.turn + J.used)) (by omega)
   rw [first_eq hl, show first D J.turn + J.used + (n - (first D J.turn + J.used)) = n by omega] at this
   rw [this, prtOf_one _ _ _ _ h.turn (by omega) (by omega) (by omega)] at hx
   cases hx
   exact Nat.le_refl _
 ·intro _ k hk1 hk2 x hx
  dsimp only at hk1 hx ⊢
  rw [first_eq hl, hk _ (by omega)] at hx
  exact h.clean h0 k (by omega) (by rwa [half_eq hl] at hk2) x hx
theorem hdrOf_page (t : Nat) (ht : t < 2 ^ 40) : hdrOf (t % 2) (hdrPage t) = t := by
 unfold hdrOf
 rw [(hdrRead t (by omega)).1, if_pos ⟨ht, rfl, rfl⟩]
/-- A header put on a calm disk. -/
theorem hdr_calm {D : DS} (hc : Calm D) (h8 : 8 ≤ D.pages.length) (t : Nat) (ht : t < 2 ^ 40) :
 ∃ D', dWrites D [(t % 2, hdrPage t)] = (D', 0) ∧ Calm D' ∧ D'.pages.length = D.pages.length ∧ content D' (t % 2) = hdrPage t ∧ ∀ n, n ≠ t % 2 → content D' n = content D n := by
 have hl : ∀ x ∈ [(t % 2, hdrPage t)], x.1 < D.pages.length ∧ x.2.length = 128 := by
  intro x hx
  obtain rfl : x = (t % 2, hdrPage t) := by simpa using hx
  exact ⟨by dsimp only; omega, hdrPage_len t (by omega)⟩
 obtain ⟨e, c⟩ := dWrites_calm hc _ hl
 refine ⟨_, e, c, setAll_len _ _, ?_, fun n hn => ?_⟩
 ·rw [content_calm c.pend]
  exact setAll_at _ D.pages (by simp) _ (List.mem_singleton.2 rfl) (by dsimp only; omega)
 ·rw [content_calm c.pend, content_calm hc.pend]
  exact setAll_other _ _ _ fun x hx => by
   obtain rfl : x = (t % 2, hdrPage t) := by simpa using hx
   exact fun e => hn e.symm
theorem jSave_good {D : DS} {J : JS} (hc : Calm D) (h : Good D J) (s : List UInt8) (hu : pagesN s.length ≤ half D) (ht : J.turn + 1 < 2 ^ 40) :
 ∃ D', jSave D J s = (D', ⟨J.turn + 1, s, [], pagesN s.length, false⟩, 0) ∧ Calm D' ∧ D'.pages.length = D.pages.length ∧ Good D' ⟨J.turn + 1, s, [], pagesN s.length, false⟩ := by
 obtain ⟨D1, e1, c1, hl1, hs1, hk1⟩ := jPut_calm hc h.len h.top (J.turn + 1) 0 0 s ht (by omega) (by omega)
 obtain ⟨D2, e2, c2, hl2, hs2, hk2⟩ := hdr_calm c1 (by rw [hl1]; exact h.len) (J.turn + 1) ht
 have hl : D2.pages.length = D.pages.length := hl2.trans hl1
 have hf := first_lo D (J.turn + 1)
 have hp := pagesN_posG s.length
 have hh : half D ≤ 4096 := by have := h.top; unfold half; omega
 have hother : ∀ n, n < 2 → n ≠ (J.turn + 1) % 2 → content D2 n = content D n := fun n h2 hn => by rw [hk2 n hn, hk1 n (by omega)]
 refine ⟨D2, ?_, c2, hl, ⟨by rw [hl]; exact h.len, by rw [hl]; exact h.top, c2.nf, rfl, fun e0 => absurd e0 (by dsimp only; omega), ht, by dsimp only; simp, ?_, ?_, ?_, ?_, ?_⟩⟩
 ·unfold jSave
  rw [h.unb, if_neg (by simp), if_neg (by omega)]
  unfold jSaved
  rw [e1, if_pos rfl, e2, if_pos rfl]
 ·intro hm
  dsimp only at hm ⊢
  have hb := hdrOf_page (J.turn + 1) ht
  rw [hm] at hs2 hb
  rw [hs2, hother 1 (by omega) (by omega)]
  refine ⟨hb, .inl ?_⟩
  have := (h.h1 (by omega)).1
  omega
 ·intro hm
  dsimp only at hm ⊢
  have hb := hdrOf_page (J.turn + 1) ht
  rw [hm] at hs2 hb
  rw [hs2, hother 0 (by omega) (by omega)]
  refine ⟨hb, ?_⟩
  have := (h.h0 (by omega)).1
  omega
 ·intro _
  refine ⟨hs1.keep hl2 fun k hk => hk2 _ (by rw [first_eq hl1]; omega), (show 0 + pagesN s.length ≤ half D2 by rw [half_eq hl]; omega), (show 0 + pagesN s.length = pagesN s.length by omega)⟩
 ·intro n h2 hn x hx
  show x.turn ≤ J.turn + 1
  rw [hk2 n (by omega)] at hx
  by_cases hi : n < first D (J.turn + 1) + 0 ∨ first D (J.turn + 1) + 0 + pagesN s.length ≤ n
  ·rw [hk1 n hi] at hx
   exact Nat.le_succ_of_le (h.new n h2 (by rw [← hl]; exact hn) x hx)
  ·have := hs1 (n - (first D (J.turn + 1) + 0)) (by omega)
   rw [first_eq hl1, show first D (J.turn + 1) + 0 + (n - (first D (J.turn + 1) + 0)) = n by omega] at this
   rw [this, prtOf_one _ _ _ _ ht (by omega) (by omega) (by omega)] at hx
   cases hx
   exact Nat.le_refl _
 ·intro _ k hk1' hk2' x hx
  dsimp only at hk1' hx hk2' ⊢
  rw [half_eq hl] at hk2'
  have hfh := first_hiG D (J.turn + 1) h.len
  rw [first_eq hl, hk2 _ (by omega), hk1 _ (by omega)] at hx
  have := h.new _ (by omega) (by omega) x hx
  omega
/-- A crash does nothing to a calm disk. -/
theorem dCrash_calm {D : DS} (hc : Calm D) (s : List Int) : dCrash D s = D := by
 obtain ⟨h1, h2, h3, h4⟩ := hc
 cases D
 dsimp only at h2 h3 h4
 subst h2 h3 h4
 rfl
theorem dNew_calm (n : Nat) : Calm (dNew n) := ⟨dNew_ok n, rfl, rfl, rfl⟩
end Go.Proofs.YtpadgkkeihhneaaGreat
