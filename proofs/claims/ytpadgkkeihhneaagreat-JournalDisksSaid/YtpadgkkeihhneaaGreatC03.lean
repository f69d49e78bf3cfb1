/- bytes.Clone, bytes.Equal. -/
import Derived.Test.YtpadgkkeihhneaaGreatC01
import Derived.WalkSpells
import Derived.Test.YtpadgkkeihhneaaGreatC02
namespace Go.Proofs.YtpadgkkeihhneaaGreat
set_option maxRecDepth 100000
set_option linter.unusedSimpArgs false
set_option linter.unusedVariables false
section
open Go.ChangeShapes Go.WideShapes Go.ChangeAt Go.RowKit
/-- The call returns new memory with the bytes l; nothing that was there has turned. -/
def Fresh (w : World) (l : List UInt8) (e : Ending) (w' : World) : Prop := ∃ v, e = .returned v ∧ Ow w' w.heap.size v l ∧ Below w.heap.size w w'
theorem below_append {B base : Nat} {a w w' : World} {v : Value} {l : List UInt8} (h : Below B a w) (ho : Ow w base v l) (hg : w.grownBy w' v.ownBlock) (hB : B ≤ w.heap.size) (hbase : B ≤ base) : Below B a w' :=
 h.grown hg hB fun k hk => Nat.le_trans hbase (ho.lt k hk).1
set_option maxHeartbeats 1000000 in
theorem clone_b (v : Value) (l : List UInt8) (w : World) (h : Bs w v l) (hl : l.length ≤ 140737488355328) : Calls Tryz.prog 104 #[v] w (Fresh w l) := by
 obtain ⟨A, c, rfl, hc, hm⟩ := h.form
 have H := hide h
 have HL := hide hl
 clear h hl hc hm
 have heq := fun (w : World) (A : Option Addr) (n c : Nat) => Lib.run_eql_slice_nil (P := Tryz.prog) w 35 5 A n c 0 0 Tryz.underlying35
 have HL2 : Hid (0 + l.length ≤ 140737488355328) := by unfold Hid; have := HL.out; omega
 generalize hn : l.length = n at H heq
 clear hn
 cases A with
 | none =>
  have hnil : l = [] := by
   obtain ⟨A', c', hv, _, _, h3⟩ := H.out
   injection hv with e1 e2 e3
   rcases Nat.eq_zero_or_pos l.length with h0 | h0
   ·exact List.eq_nil_of_length_eq_zero h0
   ·obtain ⟨b, off, e, _⟩ := h3 h0
    rw [← e1] at e; cases e
  have HN := hide hnil
  clear hnil
  go_enter Tryz.func104, Tryz.ntmps104
  go_wp2_with fail
  go_ret
  exact ⟨_, rfl, by rw [HN.out]; exact Ow.nil _ _, Below.refl _ _⟩
 | some a =>
  go_enter Tryz.func104, Tryz.ntmps104
  go_wp2_with (at_builtin; refine wpList_append_bs rfl _ _ rfl w.heap.size (l := []) (m := l) rfl (Ow.made [] #[] rfl (Nat.le_refl _) (by simp)) rfl (H.out.alloc _) HL2.out (by simp) ?_; intro v1 w1 how hg hw)
  go_ret
  exact ⟨_, rfl, how, below_grown ((Below.refl _ _).alloc (Nat.le_refl _) _) hg (by simp) (Nat.le_refl _)⟩
set_option maxHeartbeats 1000000 in
theorem equal_b (v1 v2 : Value) (l1 l2 : List UInt8) (w : World) (h1 : Bs w v1 l1) (h2 : Bs w v2 l2) :
 Calls Tryz.prog 96 #[v1, v2] w fun e w' => e = .returned (.bool (l1 == l2)) ∧ w = w' := by
 have c1 := run_string_bs h1
 have c2 := run_string_bs h2
 clear h1 h2
 go_enter Tryz.func96, Tryz.ntmps96
 go_wp2_with fail
 go_ret
 exact ⟨rfl, rfl⟩
end
section
open Go.ChangeShapes Go.WideShapes Go.ChangeAt Go.RowKit
/-- A sum's four bytes. -/
def le4 (x : BitVec 32) : List UInt8 := [lo8 x, lo8 (x >>> 8), lo8 (x >>> 16), lo8 (x >>> 24)]
def seal_ (l : List UInt8) : List UInt8 := l ++ le4 (upd 0#32 l)
theorem le4_cells (x : BitVec 32) : (#[Value.int .u8 (u32 x % 256), Value.int .u8 (u32 x / 256 % 256), Value.int .u8 (u32 x / 65536 % 256), Value.int .u8 (u32 x / 16777216 % 256)] : Array Value).toList = (le4 x).map bv := by
 simp only [le4, bv, List.map_cons, List.map_nil, u32_shr8, u32_shr16, u32_shr24, u32_lo]
set_option maxHeartbeats 1000000 in
theorem seal_c (v : Value) (l : List UInt8) (w : World) (h : Bs w v l) (hl : l.length ≤ 70368744177664) : Calls Tryz.prog 91 #[v] w (Fresh w (seal_ l)) := by
 have H := hide h
 have HL := hide hl
 clear h hl
 go_enter Tryz.func91, Tryz.ntmps91
 go_wp2_with fail
 refine (sum_c _ l _ H.out).mono ?_
 rintro e w1 ⟨rfl, hb⟩
 go_wp2_with fail
 refine (clone_b _ l _ (H.out.step hb) (by have := HL.out; omega)).mono ?_
 rintro e w2 ⟨v2, rfl, ho, hb2⟩
 have hlt := ho.lt
 have HB := hide (show Below w.heap.size w w2 from hb.trans (hb2.mono hb.size))
 have HO := hide (ho.mono hb.size)
 clear hb hb2 ho hlt
 have HL2 : Hid (l.length + (le4 (upd 0#32 l)).length ≤ 140737488355328) := by unfold Hid; have := HL.out; simp [le4]; omega
 have HC := hide (le4_cells (upd 0#32 l))
 go_wp2_with (at_builtin; refine wpList_append_bs rfl _ _ rfl w.heap.size rfl (HO.out.alloc _) rfl (Ow.made _ _ HC.out (Nat.le_refl _) (by simp [le4, maxLen])).bs HL2.out (by have := HB.out.size; simp; omega) ?_; intro v1 w3 how hg hw)
 go_ret
 exact ⟨_, rfl, how, below_append (HB.out.alloc HB.out.size _) (HO.out.alloc _) hg (by have := HB.out.size; simp; omega) (Nat.le_refl _)⟩
end
/-! ### Pages -/
def encL (l : List UInt8) : List UInt8 := enc l.length ++ l
/-- A page that begins with a sealed byte string. -/
def pageOf (b : List UInt8) : List UInt8 := seal_ b ++ List.replicate (128 - (seal_ b).length) 0
/-- A part of a block. -/
structure Prt where
 turn : Nat
 index : Nat
 p : Nat
 q : Nat
 text : List UInt8
def prtBytes (x : Prt) : List UInt8 := enc x.turn ++ enc x.index ++ enc x.p ++ enc x.q ++ encL x.text
def prtPage (x : Prt) : List UInt8 := pageOf (prtBytes x)
def hdrPage (t : Nat) : List UInt8 := pageOf (enc t)
def rd0 (b : List UInt8) : RS × Nat := rNum (b, 0)
def rd1 (b : List UInt8) : RS × Nat := rNum (rd0 b).1
def rd2 (b : List UInt8) : RS × Nat := rNum (rd1 b).1
def rd3 (b : List UInt8) : RS × Nat := rNum (rd2 b).1
def rd4 (b : List UInt8) : RS × List UInt8 := rText (rd3 b).1
/-- What the numbers and the text of a page say. -/
def prtRead (b : List UInt8) : Prt := ⟨(rd0 b).2, (rd1 b).2, (rd2 b).2, (rd3 b).2, (rd4 b).2⟩
/-- The numbers are in range. -/
def Prt.fit (x : Prt) : Bool := decide (x.turn < 2 ^ 40) && decide (x.index < 2 ^ 40) && decide (1 ≤ x.q) && decide (x.q ≤ 4096) && decide (x.p < x.q) && decide (x.text.length ≤ 96)
def Prt.full (x : Prt) : Bool := (decide (x.p + 1 = x.q) || decide (x.text.length = 96)) && (decide (0 < x.text.length) || decide (x.q = 1))
def prtOk (b : List UInt8) : Bool := (prtRead b).fit && (prtRead b).full && (prtPage (prtRead b) == b)
/-- The part that a page has. -/
def prtOf (b : List UInt8) : Option Prt := if prtOk b then some (prtRead b) else none
/-- The turn of a header page, or 0. -/
def hdrOf (n : Nat) (b : List UInt8) : Nat := if (rd0 b).2 < 2 ^ 40 ∧ (rd0 b).2 % 2 = n ∧ hdrPage (rd0 b).2 = b then (rd0 b).2 else 0
/-! ### What a disk has -/
def half (D : DS) : Nat := (D.pages.length - 2) / 2
def first (D : DS) (t : Nat) : Nat := 2 + t % 2 * half D
def pagesN (n : Nat) : Nat := max 1 ((n + 95) / 96)
/-- A block from its part p on; q: the number of parts as the first one says. -/
def blkF (D : DS) (t i a : Nat) : Nat → Nat → Nat → List UInt8 → Option (List UInt8 × Nat)
 | 0, _, _, _ => none
 | f + 1, p, q, s =>
  if half D ≤ a + p then none else
   match prtOf (content D (first D t + a + p)) with
   | none => none
   | some x => if x.turn = t ∧ x.index = i ∧ x.p = p ∧ (p = 0 ∨ x.q = q) then
    (if p + 1 = x.q then some (s ++ x.text, x.q) else blkF D t i a f (p + 1) x.q (s ++ x.text)) else none
/-- The block of a turn with an index at a page of the half. -/
def blk (D : DS) (t i a : Nat) : Option (List UInt8 × Nat) := blkF D t i a (half D - a) 0 1 []
/-- The turn found. -/
def find0 (D : DS) : Nat := if 0 < hdrOf 0 (content D 0) ∧ (blk D (hdrOf 0 (content D 0)) 0 0).isSome then hdrOf 0 (content D 0) else 0
def find1 (D : DS) : Nat := if find0 D < hdrOf 1 (content D 1) ∧ (blk D (hdrOf 1 (content D 1)) 0 0).isSome then hdrOf 1 (content D 1) else find0 D
/-- The blocks of a turn from an index on, each with the page behind it. -/
def blks (D : DS) (t : Nat) : Nat → Nat → Nat → List (List UInt8 × Nat)
 | 0, _, _ => []
 | f + 1, i, a => match blk D t i a with
  | none => []
  | some (s, n) => (s, a + n) :: blks D t f (i + 1) (a + n)
def blocks (D : DS) (t : Nat) : List (List UInt8 × Nat) := blks D t (half D) 0 0
/-- Pages behind the last block that are not zero. -/
def dirty (D : DS) (t u : Nat) : List Nat := ((List.range (half D - u)).map (first D t + u + ·)).filter fun n => content D n != List.replicate 128 0
def stale (D : DS) (t u : Nat) : Bool := (List.range (half D - u)).any fun k => match prtOf (content D (first D t + u + k)) with
 | some x => x.turn == t
 | none => false
/-- Pages are written, then synced. -/
def dWrites : DS → List (Nat × List UInt8) → DS × Int
 | D, [] => dSync D
 | D, (n, b) :: l => if (dWrite D n b).2 = 0 then dWrites (dWrite D n b).1 l else dWrite D n b
def erase (D : DS) (t u : Nat) : DS × Int := if stale D t u then dWrites D ((dirty D t u).map (·, List.replicate 128 0)) else (D, 0)
/-! ### The journal -/
structure JS where
 turn : Nat
 state : List UInt8
 records : List (List UInt8)
 used : Nat
 broken : Bool
def js0 : JS := ⟨0, [], [], 0, false⟩
/-- What the blocks of the turn found say. -/
def jFind (D : DS) : JS := if find1 D = 0 then js0 else ⟨find1 D, ((blocks D (find1 D)).head?.map (·.1)).getD [], (blocks D (find1 D)).tail.map (·.1), ((blocks D (find1 D)).getLast?.map (·.2)).getD 0, false⟩
/-- What Open does: the journal, the disk behind it, the code. -/
def jOpen (D : DS) : JS × DS × Int :=
 if D.pages.length < 8 then (js0, D, 2) else if D.failed then (js0, D, 10) else
  if find1 D = 0 then (js0, D, 0) else (jFind D, erase D (find1 D) (jFind D).used)
def jFree (D : DS) (J : JS) : Nat := if J.turn = 0 then 0 else half D - J.used
/-- The parts of a block. -/
def prts (t i : Nat) (s : List UInt8) : List (List UInt8) := (List.range (pagesN s.length)).map fun p => prtPage ⟨t, i, p, pagesN s.length, (s.drop (p * 96)).take 96⟩
def at_ (a : Nat) (l : List (List UInt8)) : List (Nat × List UInt8) := (List.range l.length).map fun k => (a + k, l.getD k [])
def jPut (D : DS) (t i a : Nat) (s : List UInt8) : DS × Int := dWrites D (at_ (first D t + a) (prts t i s))
def jAppend (D : DS) (J : JS) (s : List UInt8) : DS × JS × Int :=
 if J.broken ∨ J.turn = 0 then (D, J, 9) else if jFree D J < pagesN s.length then (D, J, 8) else
  if (jPut D J.turn (J.records.length + 1) J.used s).2 = 0 then ((jPut D J.turn (J.records.length + 1) J.used s).1, { J with records := J.records ++ [s], used := J.used + pagesN s.length }, 0)
  else ((jPut D J.turn (J.records.length + 1) J.used s).1, { J with broken := true }, (jPut D J.turn (J.records.length + 1) J.used s).2)
/-- The state's block, then the header. -/
def jSaved (D : DS) (t : Nat) (s : List UInt8) : DS × Int :=
 if (jPut D t 0 0 s).2 = 0 then dWrites (jPut D t 0 0 s).1 [(t % 2, hdrPage t)] else jPut D t 0 0 s
def jSave (D : DS) (J : JS) (s : List UInt8) : DS × JS × Int :=
 if J.broken then (D, J, 9) else if half D < pagesN s.length then (D, J, 8) else
  if (jSaved D (J.turn + 1) s).2 = 0 then ((jSaved D (J.turn + 1) s).1, ⟨J.turn + 1, s, [], pagesN s.length, false⟩, 0)
  else ((jSaved D (J.turn + 1) s).1, { J with broken := true }, (jSaved D (J.turn + 1) s).2)
theorem encT_list (l : List UInt8) : encT ⟨l.toArray⟩ = encL l := by
 unfold encT encL
 rfl
theorem enc_len (n : Nat) : (enc n).length = blen n + 1 := by unfold enc; rw [List.length_cons, dig_len]
theorem enc_le (n k : Nat) (h : n < 256 ^ k) : (enc n).length ≤ k + 1 := by rw [enc_len]; have := blen_le k n h; omega
theorem le4_len (x : BitVec 32) : (le4 x).length = 4 := rfl
theorem seal_len (l : List UInt8) : (seal_ l).length = l.length + 4 := by unfold seal_; rw [List.length_append, le4_len]
theorem pageOf_len (b : List UInt8) (h : b.length ≤ 124) : (pageOf b).length = 128 := by
 unfold pageOf; rw [List.length_append, seal_len, List.length_replicate]; omega
theorem Prt.fits (x : Prt) : x.fit = true ↔ x.turn < 2 ^ 40 ∧ x.index < 2 ^ 40 ∧ 1 ≤ x.q ∧ x.q ≤ 4096 ∧ x.p < x.q ∧ x.text.length ≤ 96 := by
 unfold Prt.fit; simp only [Bool.and_eq_true, decide_eq_true_eq]; omega
theorem Prt.fulls (x : Prt) : x.full = true ↔ (x.p + 1 = x.q ∨ x.text.length = 96) ∧ (0 < x.text.length ∨ x.q = 1) := by
 unfold Prt.full; simp only [Bool.and_eq_true, Bool.or_eq_true, decide_eq_true_eq]
/-- A part that may be written (the turn may be one more than what is read). -/
structure Prt.Small (x : Prt) : Prop where
 turn : x.turn ≤ 1099511629000
 index : x.index ≤ 2 ^ 40
 p : x.p < 65536
 q : x.q < 65536
 text : x.text.length ≤ 96
theorem Prt.small_of {x : Prt} (h : x.fit = true) : x.Small := by
 have := x.fits.1 h
 exact ⟨by omega, by omega, by omega, by omega, by omega⟩
theorem prtBytes_len (x : Prt) (h : x.Small) : (prtBytes x).length ≤ 118 := by
 obtain ⟨h1, h2, h3, h4, h5⟩ := h
 have a := enc_le x.turn 6 (by omega)
 have b := enc_le x.index 6 (by omega)
 have c := enc_le x.p 2 (by omega)
 have d := enc_le x.q 2 (by omega)
 have e := enc_le x.text.length 1 (by omega)
 unfold prtBytes encL
 simp only [List.length_append]
 omega
theorem prtPage_len (x : Prt) (h : x.Small) : (prtPage x).length = 128 := pageOf_len _ (by have := prtBytes_len x h; omega)
theorem hdrPage_len (t : Nat) (h : t < 2 ^ 64) : (hdrPage t).length = 128 := pageOf_len _ (by have := enc_le t 8 (by omega); omega)
theorem rNum_enc (n : Nat) (h : n < 2 ^ 64) (t : List UInt8) : rNum (enc n ++ t, 0) = ((t, 0), n) := by
 unfold rNum
 rw [if_pos rfl]
 show (match parseN (enc n ++ t) with | some (n, t) => ((t, 0), n) | none => (bad 11, 0)) = _
 rw [parseN_enc n h]
theorem rText_enc (s : List UInt8) (h : s.length < 2 ^ 64) (t : List UInt8) : rText (encL s ++ t, 0) = ((t, 0), s) := by
 unfold rText encL
 rw [if_pos rfl]
 show (match parseN ((enc s.length ++ s) ++ t) with | some (n, t) => if t.length < n then (bad 11, []) else ((t.drop n, 0), t.take n) | none => (bad 11, [])) = _
 rw [List.append_assoc, parseN_enc _ h]
 show (if (s ++ t).length < s.length then (bad 11, []) else (((s ++ t).drop s.length, 0), (s ++ t).take s.length)) = _
 rw [if_neg (by rw [List.length_append]; omega), List.drop_left, List.take_left]
theorem reads_of (x : Prt) (h : x.Small) (t : List UInt8) :
 rd0 (prtBytes x ++ t) = ((enc x.index ++ enc x.p ++ enc x.q ++ encL x.text ++ t, 0), x.turn) ∧ rd1 (prtBytes x ++ t) = ((enc x.p ++ enc x.q ++ encL x.text ++ t, 0), x.index) ∧
 rd2 (prtBytes x ++ t) = ((enc x.q ++ encL x.text ++ t, 0), x.p) ∧ rd3 (prtBytes x ++ t) = ((encL x.text ++ t, 0), x.q) ∧ rd4 (prtBytes x ++ t) = ((t, 0), x.text) := by
 obtain ⟨h1, h2, h3, h4, h5⟩ := h
 have e0 : rd0 (prtBytes x ++ t) = ((enc x.index ++ enc x.p ++ enc x.q ++ encL x.text ++ t, 0), x.turn) := by
  unfold rd0 prtBytes
  simp only [List.append_assoc]
  exact rNum_enc _ (by omega) _
 have e1 : rd1 (prtBytes x ++ t) = ((enc x.p ++ enc x.q ++ encL x.text ++ t, 0), x.index) := by
  unfold rd1; rw [e0]; simp only [List.append_assoc]; exact rNum_enc _ (by omega) _
 have e2 : rd2 (prtBytes x ++ t) = ((enc x.q ++ encL x.text ++ t, 0), x.p) := by
  unfold rd2; rw [e1]; simp only [List.append_assoc]; exact rNum_enc _ (by omega) _
 have e3 : rd3 (prtBytes x ++ t) = ((encL x.text ++ t, 0), x.q) := by
  unfold rd3; rw [e2]; simp only [List.append_assoc]; exact rNum_enc _ (by omega) _
 have e4 : rd4 (prtBytes x ++ t) = ((t, 0), x.text) := by
  unfold rd4; rw [e3]; exact rText_enc _ (by omega) _
 exact ⟨e0, e1, e2, e3, e4⟩
theorem prtPage_form (x : Prt) : ∃ t, prtPage x = prtBytes x ++ t := ⟨_, by unfold prtPage pageOf seal_; rw [List.append_assoc]⟩
theorem prtRead_page (x : Prt) (h : x.Small) : prtRead (prtPage x) = x ∧ (rd4 (prtPage x)).1.2 = 0 := by
 obtain ⟨t, ht⟩ := prtPage_form x
 obtain ⟨e0, e1, e2, e3, e4⟩ := reads_of x h t
 rw [ht]
 unfold prtRead
 rw [e0, e1, e2, e3, e4]
 exact ⟨rfl, rfl⟩
theorem prtOk_iff (b : List UInt8) : prtOk b = true ↔ (prtRead b).fit = true ∧ (prtRead b).full = true ∧ prtPage (prtRead b) = b := by
 unfold prtOk; simp only [Bool.and_eq_true, beq_iff_eq, and_assoc]
/-- The reference looks at the reader's code too. -/
theorem prtOk_code (b : List UInt8) (h : prtOk b = true) : (rd4 b).1.2 = 0 := by
 obtain ⟨h1, h2, h3⟩ := (prtOk_iff b).1 h
 have := (prtRead_page (prtRead b) (Prt.small_of h1)).2
 rwa [h3] at this
theorem prtOf_page (x : Prt) (h1 : x.fit = true) (h2 : x.full = true) : prtOf (prtPage x) = some x := by
 have e := (prtRead_page x (Prt.small_of h1)).1
 unfold prtOf
 rw [if_pos ((prtOk_iff _).2 (by rw [e]; exact ⟨h1, h2, rfl⟩)), e]
theorem hdrRead (t : Nat) (h : t < 2 ^ 64) : (rd0 (hdrPage t)).2 = t ∧ (rd0 (hdrPage t)).1.2 = 0 := by
 have e : rd0 (hdrPage t) = ((le4 (upd 0#32 (enc t)) ++ List.replicate (128 - (seal_ (enc t)).length) 0, 0), t) := by
  unfold rd0 hdrPage pageOf seal_
  rw [List.append_assoc]
  exact rNum_enc t h _
 rw [e]
 exact ⟨rfl, rfl⟩
/-- What the reference asks of a header page. -/
theorem hdrOf_ref (n : Nat) (b : List UInt8) : hdrOf n b = if (rd0 b).1.2 = 0 ∧ 1 ≤ (rd0 b).2 ∧ (rd0 b).2 < 2 ^ 40 ∧ (rd0 b).2 % 2 = n ∧ hdrPage (rd0 b).2 = b then (rd0 b).2 else 0 := by
 unfold hdrOf
 by_cases h : (rd0 b).2 < 2 ^ 40 ∧ (rd0 b).2 % 2 = n ∧ hdrPage (rd0 b).2 = b
 ·rw [if_pos h]
  have hc : (rd0 b).1.2 = 0 := by
   have := (hdrRead (rd0 b).2 (by omega)).2
   rwa [h.2.2] at this
  by_cases h0 : 1 ≤ (rd0 b).2
  ·rw [if_pos ⟨hc, h0, h⟩]
  ·rw [if_neg (fun x => h0 x.2.1)]; omega
 ·rw [if_neg h, if_neg (fun x => h x.2.2)]
end Go.Proofs.YtpadgkkeihhneaaGreat
