/- A reader's methods: Count, NewReader. -/
import Derived.Test.YtpbgelhjbfckcaaT12
import Derived.Test.YtpbgelhjbfckcaaT11
namespace Go.Proofs.Ytpbgelhjbfckcaa
set_option linter.unusedSimpArgs false
open Go.ChangeShapes Go.WideShapes Go.ChangeAt Go.RowKit
set_option linter.unusedVariables false

/-- A box that holds an integer. -/
def BoxI (w : World) (s : Nat) (x : Int) : Prop := w.cell? ⟨s, 0, none⟩ = some (.int .i64 x)

set_option maxHeartbeats 1000000 in
theorem countC_bad (q s b : Nat) (k : Option Nat) (l : List UInt8) (x : Int) (w : World) (h : Rd w b k l 0) (hl : l.length ≤ 140737488355328) (hp : parseN l = none) (hq : BoxP w q b) :
    Calls Try.prog 80 #[.pointer (some ⟨q, 0, none⟩), .pointer (some ⟨s, 0, none⟩)] w (FnBad [b] w b k 11 (fun _ => True)) := by
  have HN := hide (number_bad b k l 0 w h hl hp)
  unfold BoxP at hq
  clear h
  go_enter Try.func80, Try.ntmps80
  go_wp2_with fail
  refine HN.out.mono ?_
  rintro e w1 ⟨rfl, ⟨l', hr, hl'⟩, hg⟩
  have HG := hide hg
  have HR := hide hr
  clear hg hr hq hl'
  go_wp2_with fail
  go_ret2
  exact ⟨rfl, ⟨_, HR.out⟩, Touch.one HG.out, trivial⟩

set_option maxHeartbeats 1000000 in
theorem countC_large (q s b : Nat) (k : Option Nat) (l : List UInt8) (x : Int) (w : World) (h : Rd w b k l 0) (hl : l.length ≤ 140737488355328) {n : Nat} {t : List UInt8} (hp : parseN l = some (n, t)) (hx : x < (n : Int)) (hx1 : x ≤ 9223372036854775807) (hq : BoxP w q b) (hs : BoxI w s x) (hsb : s ≠ b) (hsl : s < w.heap.size) :
    Calls Try.prog 80 #[.pointer (some ⟨q, 0, none⟩), .pointer (some ⟨s, 0, none⟩)] w (FnBad [b] w b k 8 (fun _ => True)) := by
  have HN := hide (number_got b k l 0 w h hl hp)
  unfold BoxP at hq
  unfold BoxI at hs
  have HP := hide hp
  clear h hl hp
  by_cases h0 : x < 0
  · go_enter Try.func80, Try.ntmps80
    go_wp2_with fail
    refine HN.out.mono ?_
    rintro e w1 ⟨rfl, hr, hg⟩
    have hs1 : w1.cell? ⟨s, 0, none⟩ = some (.int .i64 x) := (World.cell?_of_block (hg.block s hsl (by intro e; injection e with e; exact hsb e))).trans hs
    have HG := hide hg
    have HR := hide hr
    clear hg hr hq hs
    go_wp2_with fail
    go_ret2
    exact ⟨rfl, ⟨_, HR.out⟩, Touch.one HG.out, trivial⟩
  · have h00 : 0 ≤ x := by omega
    clear h0
    go_enter Try.func80, Try.ntmps80
    go_wp2_with fail
    refine HN.out.mono ?_
    rintro e w1 ⟨rfl, hr, hg⟩
    have hs1 : w1.cell? ⟨s, 0, none⟩ = some (.int .i64 x) := (World.cell?_of_block (hg.block s hsl (by intro e; injection e with e; exact hsb e))).trans hs
    have HG := hide hg
    have HR := hide hr
    clear hg hr hq hs
    go_wp2_with fail
    go_ret2
    exact ⟨rfl, ⟨_, HR.out⟩, Touch.one HG.out, trivial⟩

set_option maxHeartbeats 1000000 in
theorem countC_got (q s b : Nat) (k : Option Nat) (l : List UInt8) (x : Int) (w : World) (h : Rd w b k l 0) (hl : l.length ≤ 140737488355328) {n : Nat} {t : List UInt8} (hp : parseN l = some (n, t)) (hx : ¬ x < (n : Int)) (hx1 : x ≤ 9223372036854775807) (hq : BoxP w q b) (hs : BoxI w s x) (hsb : s ≠ b) (hsl : s < w.heap.size) :
    Calls Try.prog 80 #[.pointer (some ⟨q, 0, none⟩), .pointer (some ⟨s, 0, none⟩)] w (FnGot [b] w b k n t (fun _ => True)) := by
  have HN := hide (number_got b k l 0 w h hl hp)
  unfold BoxP at hq
  unfold BoxI at hs
  have HP := hide hp
  clear h hl hp
  have h0 : ¬ x < 0 := by omega
  have h00 : 0 ≤ x := by omega
  go_enter Try.func80, Try.ntmps80
  go_wp2_with fail
  refine HN.out.mono ?_
  rintro e w1 ⟨rfl, hr, hg⟩
  have hs1 : w1.cell? ⟨s, 0, none⟩ = some (.int .i64 x) := (World.cell?_of_block (hg.block s hsl (by intro e; injection e with e; exact hsb e))).trans hs
  have HG := hide hg
  have HR := hide hr
  clear hg hr hq hs
  go_wp2_with fail
  go_ret2
  exact ⟨rfl, HR.out, Touch.one HG.out, trivial⟩

theorem rCount_len (x : Int) (l : List UInt8) (c : Int) : (rCount x (l, c)).1.1.length ≤ l.length := by
  unfold rCount
  split
  · split
    · rename_i h
      have h1 := parse_len h
      split
      · simp [bad]
      · exact Nat.le_of_lt h1
    · simp [bad]
  · simp
theorem rBool_len (l : List UInt8) (c : Int) : (rBool (l, c)).1.1.length ≤ l.length := by
  unfold rBool
  split
  · cases l with
    | nil => simp [bad]
    | cons x t =>
      simp only
      split <;> simp [bad]
  · simp
theorem rInt_len (l : List UInt8) (c : Int) : (rInt (l, c)).1.1.length ≤ l.length := rNum_len l c

set_option maxHeartbeats 2000000 in
theorem rdCount_c (b : Nat) (k : Option Nat) (l : List UInt8) (c x : Int) (hx1 : x ≤ 9223372036854775807) (w : World) (h : Rd w b k l c) (hl : l.length ≤ 140737488355328) (hk : ∀ j, k = some j → j < w.heap.size) :
    Calls Try.prog 45 #[.pointer (some ⟨b, 0, none⟩), .int .i64 x] w (Step1 w b k (rCount x (l, c)).1 (.int .i64 (rCount x (l, c)).2)) := by
  have hblt := h.lt
  have H := hide ((h.alloc (.cells #[.pointer (some ⟨b, 0, none⟩)] 106)).alloc (.cells #[.int .i64 x] 3))
  clear h
  obtain ⟨w0, hw0⟩ : ∃ w0, w0 = (w.alloc (.cells #[.pointer (some ⟨b, 0, none⟩)] 106)).alloc (.cells #[.int .i64 x] 3) := ⟨_, rfl⟩
  have hq : BoxP w0 w.heap.size b := by rw [hw0]; exact ((Blk.new w _ _).alloc _).cell 0
  have hs : BoxI w0 (w.heap.size + 1) x := by rw [hw0]; have := (Blk.new (w.alloc (.cells #[.pointer (some ⟨b, 0, none⟩)] 106)) 3 #[.int .i64 x]).cell 0; simp only [World.size_alloc] at this; exact this
  have hT : Touch [] w w0 := by rw [hw0]; exact ((Touch.refl [] w).alloc _).alloc _
  have hsl : w.heap.size + 1 < w0.heap.size := by rw [hw0]; simp
  have hback : ∀ (w1 : World), Touch [b] w0 w1 → Touch [b] w w1 := fun w1 h1 => (hT.mono (T := [b]) (by simp)).next h1 (by simp)
  rw [← hw0] at H
  have HB := hide hback
  have HW := hide hw0
  clear hback hw0
  by_cases hc : c = 0
  · subst hc
    have HX : ∀ (code : Int) (hcode : code ≠ 0) (HF : Calls Try.prog 80 #[.pointer (some ⟨w.heap.size, 0, none⟩), .pointer (some ⟨w.heap.size + 1, 0, none⟩)] w0 (FnBad [b] w0 b k code (fun _ => True))),
        Calls Try.prog 45 #[.pointer (some ⟨b, 0, none⟩), .int .i64 x] w (Step1 w b k (bad code) (.int .i64 0)) := by
      intro code hcode HF
      have HF := hide (readCount_bad w.heap.size (w.heap.size + 1) [b] b k l code hcode (fun _ => True) w0 H.out (by simp) HF)
      clear hq hs hT hsl hcode
      go_enter Try.func45, Try.ntmps45
      go_wp2_with fail
      rw [HW.out] at HF HB
      refine HF.out.mono ?_
      rintro e w1 ⟨rfl, h1, h2, _⟩
      have H1 := hide h1
      have H2 := hide (HB.out _ h2)
      clear h1 h2
      go_wp2_with fail
      go_ret
      exact ⟨rfl, H1.out, H2.out⟩
    cases hp : parseN l with
    | none =>
      have hr : rCount x (l, 0) = (bad 11, 0) := by simp [rCount, hp]
      rw [hr]
      exact HX 11 (by decide) (countC_bad _ _ b k l x _ H.out hl hp hq)
    | some p =>
      obtain ⟨n, t⟩ := p
      by_cases ht : x < (n : Int)
      · have hr : rCount x (l, 0) = (bad 8, 0) := by simp [rCount, hp, ht]
        rw [hr]
        exact HX 8 (by decide) (countC_large _ _ b k l x _ H.out hl hp ht hx1 hq hs (by omega) hsl)
      · have hr : rCount x (l, 0) = ((t, 0), n) := by simp [rCount, hp, ht]
        rw [hr]
        have hn0 : (n : Int) ≤ 9223372036854775807 := by omega
        have HF := hide (readCount_got w.heap.size (w.heap.size + 1) [b] b k l n t (fun _ => True) w0 H.out (countC_got _ _ b k l x _ H.out hl hp ht hx1 hq hs (by omega) hsl))
        clear hq hs hT hsl hr HX ht hp
        go_enter Try.func45, Try.ntmps45
        go_wp2_with fail
        rw [HW.out] at HF HB
        refine HF.out.mono ?_
        rintro e w1 ⟨rfl, h1, h2, _⟩
        have H1 := hide h1
        have H2 := hide (HB.out _ h2)
        clear h1 h2
        go_wp2_with fail
        go_ret
        exact ⟨rfl, H1.out, H2.out⟩
  · have hr : rCount x (l, c) = ((l, c), 0) := by simp [rCount, hc]
    rw [hr]
    have HF := hide (read_stopped b k l c (.func (.func 80) #[] #[.pointer (some ⟨w.heap.size, 0, none⟩), .pointer (some ⟨w.heap.size + 1, 0, none⟩)]) w0 H.out hc)
    have HT := hide hT
    clear hq hs hT hsl hr hc
    go_enter Try.func45, Try.ntmps45
    go_wp2_with fail
    rw [HW.out] at HF HB HT H
    refine HF.out.mono ?_
    rintro e w1 ⟨rfl, rfl⟩
    go_wp2_with fail
    go_ret
    exact ⟨rfl, H.out, HT.out.mono (by simp)⟩

/-- A new reader, which lies in new memory. -/
def NewRd (w : World) (l : List UInt8) (e : Ending) (w' : World) : Prop :=
  ∃ b k, e = .returned (.pointer (some ⟨b, 0, none⟩)) ∧ Rd w' b k l 0 ∧ Below w.heap.size w w' ∧ w.heap.size ≤ b ∧ (∀ j, k = some j → w.heap.size ≤ j ∧ j < w'.heap.size)

set_option maxHeartbeats 1000000 in
theorem newReader_c (v : Value) (l : List UInt8) (w : World) (h : Bs w v l) (hl : l.length ≤ 140737488355328) :
    Calls Try.prog 44 #[v] w (NewRd w l) := by
  have H := hide (clone_b v l w h hl)
  clear h
  go_enter Try.func44, Try.ntmps44
  go_wp2_with fail
  refine H.out.mono ?_
  rintro e w1 ⟨v1, rfl, ho, hb⟩
  have HO := hide ho
  have HB := hide hb
  clear ho hb
  obtain ⟨A, c, rfl, _, _⟩ := HO.out.form
  go_wp2_with fail
  go_ret
  have hs := HB.out.size
  refine ⟨w1.heap.size, _, rfl, ⟨_, Blk.new _ _ _, HO.out.bs.alloc _, (fun j hj => hj), ?_⟩, HB.out.alloc hs _, hs, ?_⟩
  · intro e
    have := (HO.out.lt _ e).2
    omega
  · intro j hj
    have := HO.out.lt _ hj
    exact ⟨this.1, by simp; omega⟩
end Go.Proofs.Ytpbgelhjbfckcaa
/- Reading: numbers, lists of numbers. -/
namespace Go.Proofs.Ytpbgelhjbfckcaa
open Go.ChangeShapes Go.WideShapes Go.ChangeAt Go.RowKit
set_option linter.unusedVariables false
set_option linter.unusedSimpArgs false

/-- append(v, x...): v the call's own, x a row that is there (or nil). -/
theorem run_append_row {P : Program} {w : World} (base b2 : Nat) (t ty e : TypeId) (i : TypeInfo) (z : Value) (size bytes : Nat) (ht : P.underlying t = some (.slice e)) (hi : P.info? e = some i) (hz : i.zero = some z)
    (hsize : i.size = size) (hby : i.bytes = bytes) (hzs : z.cells.size = size) (hsz : 0 < size) {v x : Value} {n m : Nat} {xs news : List Value} (hv : w.ownsRow base e size v n xs) (hx : w.ownsRow b2 e size x m news)
    (h1 : ∀ u ∈ news, u.oneCell' = true) (h63 : n + m ≤ maxLen) (hbytes : (n + m) * bytes ≤ 140737488355328) (hbase : base ≤ w.heap.size) :
    ∃ v' w', (Builtin.append_ #[t, t] ty #[v, x]).run P w = .ok v' w' ∧ w'.ownsRow base e size v' (n + m) (xs ++ news) ∧ w.grownBy w' v.ownBlock ∧ (v'.ownBlock = v.ownBlock ∨ v'.ownBlock = some w.heap.size) := by
  have hx2 := hx.2
  rcases hx2 with ⟨rfl, rfl⟩ | ⟨g, cap, cur, rfl, hg, hh, hn, hm, hs, htk⟩
  · have hnn : news = [] := List.eq_nil_of_length_eq_zero (by rw [hx.1, Nat.zero_mul])
    subst hnn
    refine ⟨v, w, ?_, by simpa using hv, grown_refl _ _, .inl rfl⟩
    obtain ⟨_, ⟨rfl, _⟩ | ⟨g, cap, cur, rfl, _, _, hn, _⟩⟩ := hv
    · simp [Builtin.append_, run_underlying ht, sizeOf, typeInfo, hi, Builtin.lenOf, Builtin.firstCells]
    · simp [Builtin.append_, run_underlying ht, sizeOf, typeInfo, hi, Builtin.lenOf, Builtin.firstCells, hn, storeCells]
  · obtain ⟨v', w', h4, h5, h6, _, h7⟩ := run_append_own_at (P := P) w base t ty e i z size bytes ht hi hz hsize hby hzs hsz v n xs hv ⟨g, 0, none⟩ m cap news hx.1 (World.ownsRow.cells hx (g := g) rfl) h1 h63 hbytes hbase
    exact ⟨v', w', h4, h5, h6, h7⟩
theorem wpList_append_row {P : Program} {w : World} {ops : Array Oper} {rest : List Oper} {o : Oper} {a : Act} {Q : Exit → Act → World → Prop} (hgd : o.guard = none) (s x : Operand) (t : TypeId)
    (ho : o.op = .call { callee := .builtin .append, args := #[s, x], argTypes := #[t, t] }) (base b2 : Nat) (e : TypeId) (i : TypeInfo) (z : Value) (size bytes : Nat) (ht : P.underlying t = some (.slice e)) (hi : P.info? e = some i) (hz : i.zero = some z)
    (hsize : i.size = size) (hby : i.bytes = bytes) (hzs : z.cells.size = size) (hsz : 0 < size) {v vx : Value} {n m : Nat} {xs news : List Value} (hs : a.eval s = v) (hv : w.ownsRow base e size v n xs) (hvx : a.eval x = vx) (hx : w.ownsRow b2 e size vx m news)
    (h1 : ∀ u ∈ news, u.oneCell' = true) (h63 : n + m ≤ maxLen) (hbytes : (n + m) * bytes ≤ 140737488355328) (hbase : base ≤ w.heap.size)
    (h : ∀ v' w', w'.ownsRow base e size v' (n + m) (xs ++ news) → w.grownBy w' v.ownBlock → (v'.ownBlock = v.ownBlock ∨ v'.ownBlock = some w.heap.size) → wpList P ops Q rest (a.put o.dst v') w') : wpList P ops Q (o :: rest) a w := by
  refine wpList_plain hgd fun K hK => ?_
  obtain ⟨v', w', hr, h2, h3, h4⟩ := run_append_row (P := P) base b2 t o.type e i z size bytes ht hi hz hsize hby hzs hsz hv hx h1 h63 hbytes hbase
  unfold Oper.wp execOp
  simp only [ho, resolve, invoke, builtin, Sem.run_bind, Sem.run_pure, Result.andThen_ok, List.map_toArray, List.map_cons, List.map_nil, hs, hvx, hr]
  exact hK _ _ (h v' w' h2 h3 h4)
/-- A new block of just these cells, as a slice. -/
theorem row_lit (w : World) (base : Nat) (t : TypeId) (size n : Nat) (cs : List Value) (hl : cs.length = n * size) (hn : n ≤ maxLen) (hb : base ≤ w.heap.size) :
    (w.alloc (.cells cs.toArray t)).ownsRow base t size (.slice (some ⟨w.heap.size, 0, none⟩) n n) n cs :=
  ⟨hl, .inr ⟨w.heap.size, n, cs.toArray, rfl, hb, heap_alloc_new w _, Nat.le_refl _, hn, by simpa using hl, by rw [List.take_of_length_le (by simp; omega)]⟩⟩
theorem info_int : (Try.prog.info? 3).map (fun i => (i.zero, i.size, i.bytes)) = some (some (.int .i64 0), 1, 8) := by kernel_rfl
/-- A whole slice of numbers. -/
def OwI (w : World) (base : Nat) (v : Value) (l : List Int) : Prop := w.ownsRow base 3 1 v l.length (l.map fun x => Value.int .i64 x)
theorem OwI.nil (w : World) (base : Nat) : OwI w base (.slice none 0 0) [] := World.ownsRow_nil w base 3 1
theorem OwI.touch {S : List Nat} {w w' : World} {base : Nat} {v : Value} {l : List Int} (h : OwI w base v l) (k : Touch S w w') (hv : ∀ j, v.ownBlock = some j → j ∉ S) : OwI w' base v l := by
  obtain ⟨hl, h1 | ⟨g, cap, cur, rfl, hb, hgg, r⟩⟩ := h
  · exact ⟨hl, .inl h1⟩
  · exact ⟨hl, .inr ⟨g, cap, cur, rfl, hb, (k.block g (Array.getElem?_eq_some_iff.1 hgg).1 (hv g rfl)).trans hgg, r⟩⟩
theorem OwI.lt {w : World} {base : Nat} {v : Value} {l : List Int} (h : OwI w base v l) : ∀ k, v.ownBlock = some k → base ≤ k ∧ k < w.heap.size := World.ownsRow.lt h
/-- A list of numbers in a block from A on, below B. -/
def LiAB (w : World) (A0 B : Nat) (v : Value) (l : List Int) : Prop :=
  ∃ A c, v = .slice A l.length c ∧ l.length ≤ c ∧ c ≤ maxLen ∧ (∀ x ∈ l, I64 x) ∧ (0 < l.length → ∃ g o, A = some ⟨g, o, none⟩ ∧ A0 ≤ g ∧ g < B ∧ (∃ ics, Blk w g 3 ics) ∧ ∀ i (h : i < l.length), w.cell? ⟨g, o + i, none⟩ = some (.int .i64 l[i]))
theorem LiAB.low {w : World} {A0 B : Nat} {v : Value} {l : List Int} (h : LiAB w A0 B v l) : LiB w B v l := by
  obtain ⟨A, c, e, h1, h2, h3, h4⟩ := h
  exact ⟨A, c, e, h1, h2, h3, fun h0 => by obtain ⟨g, o, e1, _, hg, _, hc⟩ := h4 h0; exact ⟨g, o, e1, hg, hc⟩⟩
theorem LiAB.nil (w : World) (A0 B : Nat) : LiAB w A0 B (.slice none 0 0) [] := ⟨none, 0, rfl, Nat.le_refl _, by unfold maxLen; omega, by simp, fun h => by cases h⟩
/-- What turns are blocks below A0, or blocks of another kind. -/
theorem LiAB.turn {w w' : World} {A0 B : Nat} {v : Value} {l : List Int} {S : List Nat} (h : LiAB w A0 B v l) (k : Touch S w w') (hB : B ≤ w.heap.size) (hS : ∀ s ∈ S, s < A0 ∨ ∀ cs, ¬ Blk w s 3 cs) : LiAB w' A0 w'.heap.size v l := by
  obtain ⟨A, c, e, h1, h2, h3, h4⟩ := h
  refine ⟨A, c, e, h1, h2, h3, fun h0 => ?_⟩
  obtain ⟨g, o, e1, hA, hg, ⟨ics, hi⟩, hc⟩ := h4 h0
  have hn : g ∉ S := fun hm => by
    rcases hS g hm with h | h
    · omega
    · exact h ics hi
  refine ⟨g, o, e1, hA, Nat.lt_of_lt_of_le hg (Nat.le_trans hB k.size), ⟨ics, hi.touch k hn⟩, fun i hi => ?_⟩
  rw [World.cell?_of_block (k.block g (Nat.lt_of_lt_of_le hg hB) hn)]
  exact hc i hi
theorem LiAB.touch {w w' : World} {A0 B : Nat} {v : Value} {l : List Int} {S : List Nat} (h : LiAB w A0 B v l) (k : Touch S w w') (hB : B ≤ w.heap.size) (hS : ∀ s ∈ S, s < A0) : LiAB w' A0 w'.heap.size v l := h.turn k hB (fun s hs => .inl (hS s hs))
theorem OwI.li {w : World} {base : Nat} {v : Value} {l : List Int} (h : OwI w base v l) (hi : ∀ x ∈ l, I64 x) : LiAB w base w.heap.size v l := by
  have h' := h
  obtain ⟨hl, ⟨rfl, h0⟩ | ⟨g, cap, cur, rfl, hb, hgg, hn, hm, r⟩⟩ := h
  · obtain rfl : l = [] := List.eq_nil_of_length_eq_zero h0
    exact LiAB.nil _ _ _
  · refine ⟨_, cap, rfl, hn, hm, hi, fun h0 => ⟨g, 0, rfl, hb, (Array.getElem?_eq_some_iff.1 hgg).1, ⟨cur, hgg⟩, fun i hj => ?_⟩⟩
    have hc := World.ownsRow.cellAt (w := w) (cap := cap) h' i (by omega)
    rw [Nat.zero_add, hc]
    simp [hj]
theorem wpList_append_i {ops : Array Oper} {rest : List Oper} {o : Oper} {a : Act} {w w0 : World} {Q : Exit → Act → World → Prop} (hgd : o.guard = none) (s x : Operand)
    (ho : o.op = .call { callee := .builtin .append, args := #[s, x], argTypes := #[28, 28] }) {base : Nat} {v : Value} {l : List Int} {z : Int} (hs : a.eval s = v) (hv : OwI w0 base v l) (hb : base ≤ w0.heap.size) (hw : w = w0.alloc (.cells #[.int .i64 z] 3))
    (hvx : a.eval x = .slice (some ⟨w0.heap.size, 0, none⟩) 1 1) (hlen : l.length ≤ 1000000000)
    (h : ∀ v' w', OwI w' base v' (l ++ [z]) → Touch v.ownBlock.toList w0 w' → (v'.ownBlock = v.ownBlock ∨ ∃ j, v'.ownBlock = some j ∧ w0.heap.size ≤ j) → wpList Try.prog ops Q rest (a.put o.dst v') w') : wpList Try.prog ops Q (o :: rest) a w := by
  obtain ⟨i0, hi0, hz0, hz1, hz2⟩ := info_parts info_int
  subst hw
  have hv2 : (w0.alloc (.cells #[.int .i64 z] 3)).ownsRow base 3 1 v l.length (l.map fun x => Value.int .i64 x) := World.ownsRow.alloc hv _
  refine wpList_append_row hgd s x 28 ho base 0 3 i0 _ 1 8 Try.underlying28 hi0 hz0 hz1 hz2 rfl (by decide) (n := l.length) (m := 1) hs hv2 hvx (row_lit w0 0 3 1 1 [.int .i64 z] rfl (by unfold maxLen; omega) (Nat.zero_le _)) (by intro u hu; rw [List.mem_singleton.1 hu]; rfl) (by unfold maxLen; omega) (by omega) (by rw [World.size_alloc]; omega) ?_
  intro v' w' hr hg ho2
  refine h v' w' ?_ ?_ ?_
  · show w'.ownsRow base 3 1 v' (l ++ [z]).length ((l ++ [z]).map _)
    rw [List.length_append, List.map_append]
    exact hr
  · have h1 : Touch [] w0 (w0.alloc (.cells #[.int .i64 z] 3)) := (Touch.refl [] w0).alloc _
    exact (h1.mono (by simp)).trans (Touch.grown hg)
  · rcases ho2 with e | e
    · exact .inl e
    · exact .inr ⟨_, e, by rw [World.size_alloc]; omega⟩
/-- n numbers, one after the other. -/
def rList : Nat → RS → RS × List Int
  | 0, r => (r, [])
  | n + 1, r => ((rInt (rList n r).1).1, (rList n r).2 ++ [(rInt (rList n r).1).2])
def rInts (r : RS) : RS × List Int := rList (rCount r.1.length r).2 (rCount r.1.length r).1
theorem rCount_le (x : Int) (hx : 0 ≤ x) (r : RS) : ((rCount x r).2 : Int) ≤ x := by
  unfold rCount
  split
  · split
    · split
      · exact hx
      · simp only; omega
    · exact hx
  · exact hx
theorem rList_len (n : Nat) (r : RS) : (rList n r).1.1.length ≤ r.1.length := by
  induction n with
  | zero => exact Nat.le_refl _
  | succ n ih => exact Nat.le_trans (rInt_len (rList n r).1.1 (rList n r).1.2) ih
theorem rList_size (n : Nat) (r : RS) : (rList n r).2.length = n := by
  induction n with
  | zero => rfl
  | succ n ih => show ((rList n r).2 ++ [_]).length = _; rw [List.length_append, ih]; rfl
theorem zag_i64 {n : Nat} (h : n < 2 ^ 64) : I64 (zag n) := by
  unfold zag I64
  split <;> omega
theorem rInt_i64 (r : RS) : I64 (rInt r).2 := zag_i64 (rNum_lt r.1 r.2)
theorem rList_i64 (n : Nat) (r : RS) : ∀ x ∈ (rList n r).2, I64 x := by
  induction n with
  | zero => intro x hx; cases hx
  | succ n ih =>
    intro x hx
    rcases List.mem_append.1 (show x ∈ (rList n r).2 ++ [_] from hx) with h | h
    · exact ih x h
    · rw [List.mem_singleton.1 h]; exact rInt_i64 _
/-- A list was read. -/
def GotL (w : World) (b : Nat) (k : Option Nat) (r : RS) (l : List Int) (e : Ending) (w' : World) : Prop := ∃ v, e = .returned v ∧ OwI w' w.heap.size v l ∧ Rd w' b k r.1 r.2 ∧ Touch [b] w w'
set_option maxRecDepth 100000 in
set_option maxHeartbeats 4000000 in
theorem readInts_c (b : Nat) (k : Option Nat) (l : List UInt8) (c : Int) (w : World) (h : Rd w b k l c) (hl : l.length ≤ 1000000000) (hk : ∀ j, k = some j → j < w.heap.size) :
    Calls Try.prog 85 #[at0 b] w (GotL w b k (rInts (l, c)).1 (rInts (l, c)).2) := by
  have H := hide h
  have HL := hide hl
  have HK := hide hk
  have HBL := hide h.lt
  clear h hl hk
  go_enter Try.func85, Try.ntmps85
  go_wp2_with fail
  refine (left_c b k l c w H.out).mono ?_
  rintro e w1 ⟨rfl, rfl⟩
  go_wp2_with fail
  refine (rdCount_c b k l c l.length (by have := HL.out; omega) w H.out (by have := HL.out; omega) HK.out).mono ?_
  rintro e w2 ⟨rfl, hr2, ht2⟩
  have HX : Hid (rInts (l, c) = rList (rCount l.length (l, c)).2 (rCount l.length (l, c)).1) := hide rfl
  have HC2 : Hid ((rCount l.length (l, c)).2 ≤ 1000000000) := hide (by have := rCount_le l.length (by omega) (l, c); have := HL.out; omega)
  have HR1 : Hid ((rCount l.length (l, c)).1.1.length ≤ 1000000000) := hide (Nat.le_trans (rCount_len _ _ _) HL.out)
  have HR2 := hide hr2
  have HT2 := hide ht2
  generalize (rCount l.length (l, c)).2 = n at *
  generalize (rCount l.length (l, c)).1 = r1 at *
  clear hr2 ht2
  go_wp2_with fail
  go_loopw [3, 8] (fun v3 v8 wr => ∃ j : Nat, v8 = .int .i64 j ∧ j ≤ n ∧ OwI wr w.heap.size v3 (rList j r1).2 ∧ Rd wr b k (rList j r1).1.1 (rList j r1).1.2 ∧ Touch [b] w wr) (fun _ v8 _ => n - (intOf v8).toNat)
  case atStart => exact ⟨0, rfl, Nat.zero_le _, OwI.nil _ _, HR2.out, HT2.out⟩
  case round =>
    obtain ⟨j, rfl, hj, ho, hr, ht⟩ := hrel
    clear HR2 HT2
    have hn7 := HC2.out
    have HOI := hide ho
    have HR := hide hr
    have HT := hide ht
    have HJ := hide hj
    clear ho hr ht
    by_cases hlt : j < n
    · have HLT := hide hlt
      have hji : (j : Int) < (n : Int) := by omega
      clear hlt hj
      go_wp2_with fail
      refine (rdInt_c b k (rList j r1).1.1 (rList j r1).1.2 _ HR.out (by have := rList_len j r1; have := HR1.out; omega)).mono ?_
      rintro e w3 ⟨rfl, hr3, ht3⟩
      have HR3 : Hid (Rd w3 b k (rList (j + 1) r1).1.1 (rList (j + 1) r1).1.2) := hide hr3
      have HT3 := hide (HT.out.trans ht3)
      have HO3 := hide (HOI.out.touch ht3 (fun g hg hm => by have := (HOI.out.lt g hg).1; have := HBL.out; simp only [List.mem_singleton] at hm; omega))
      have HSN : Hid ((rList (j + 1) r1).2 = (rList j r1).2 ++ [(rInt ((rList j r1).1.1, (rList j r1).1.2)).2]) := hide rfl
      have HLJ : Hid ((rList j r1).2.length ≤ 1000000000) := hide (by rw [rList_size]; have := HC2.out; have := HLT.out; omega)
      generalize (rInt ((rList j r1).1.1, (rList j r1).1.2)).2 = z at *
      clear hr3 ht3
      go_wp2_with (at_builtin; refine wpList_append_i rfl _ _ rfl (z := z) rfl HO3.out HT3.out.size rfl rfl HLJ.out ?_; intro v' w' hn' hb' _; have HN := hide hn'; have HB := hide hb'; clear hn' hb')
      have HOB : Hid (∀ g ∈ u3.ownBlock.toList, w.heap.size ≤ g) := hide (fun g hg => (HO3.out.lt g (by simpa using hg)).1)
      go_roundw
      case rel => exact ⟨j + 1, by go_num, HLT.out, by rw [HSN.out]; exact HN.out, HR3.out.touch HB.out (fun hm => by have := HOB.out _ hm; have := HBL.out; omega) (fun g hg hm => by have := HOB.out _ hm; have := HK.out g hg; omega), HT3.out.next HB.out (fun g hg => .inr (HOB.out g hg))⟩
      case measure => have := HLT.out; simp [intOf]; omega
    · obtain rfl : j = n := by omega
      clear hlt hj
      go_wp2_with fail
      go_ret
      exact ⟨_, rfl, by rw [HX.out]; exact HOI.out, by rw [HX.out]; exact HR.out, HT.out⟩
end Go.Proofs.Ytpbgelhjbfckcaa
/- Reading a group's message: a list's length, a list. -/
namespace Go.Proofs.Ytpbgelhjbfckcaa
open Go.ChangeShapes Go.WideShapes Go.ChangeAt Go.RowKit
set_option linter.unusedVariables false
set_option linter.unusedSimpArgs false

theorem Own.plus {w0 W : World} {L : List (Nat × TypeId × List Value)} (h : Own w0 [] L W) (S : List Nat) (hb : ∀ s ∈ S, s < w0.heap.size) : Own w0 S L W := ⟨h.has, h.apart, h.touch.mono (by simp), hb⟩
def rCnt (r : RS) : RS × Nat := if (rInt r).2 < 0 ∨ ((rInt r).1.1.length : Int) < (rInt r).2 then ((rCount (-1) (rInt r).1).1, 0) else ((rInt r).1, (rInt r).2.toNat)
theorem rCnt_len (r : RS) : (rCnt r).1.1.length ≤ r.1.length := by
  have h1 := rInt_len r.1 r.2
  unfold rCnt
  split
  · exact Nat.le_trans (rCount_len _ _ _) h1
  · exact h1
theorem rCnt_le (r : RS) : (rCnt r).2 ≤ r.1.length := by
  have h1 : (rInt r).1.1.length ≤ r.1.length := rInt_len r.1 r.2
  unfold rCnt
  split
  · exact Nat.zero_le _
  · show (rInt r).2.toNat ≤ _
    omega
theorem ret_i64n {a : Int} {b : Nat} (h : a = b) : Ending.returned (.int .i64 a) = .returned (.int .i64 (b : Int)) := by rw [h]
set_option maxRecDepth 100000 in
set_option maxHeartbeats 4000000 in
theorem count_c (b : Nat) (k : Option Nat) (l : List UInt8) (c : Int) (w : World) (h : Rd w b k l c) (hl : l.length ≤ 1000000000) (hk : ∀ j, k = some j → j < w.heap.size) :
    Calls Try.prog 105 #[.agg #[at0 b]] w fun e w' => e = .returned (.int .i64 (rCnt (l, c)).2) ∧ Rd w' b k (rCnt (l, c)).1.1 (rCnt (l, c)).1.2 ∧ Touch [b] w w' := by
  have HBL := hide h.lt
  have HO := hide (Own.nil w [] (by simp))
  have H := hide h
  have HL := hide hl
  have HK := hide hk
  clear h hl hk
  go_enter Try.func105, Try.ntmps105
  go_wp2_with ((with_reducible refine at_box 157 (.tmp 0) ?_); refine wpList_box_own HO.out rfl 157 (.tmp 0) rfl [at0 b] rfl ?_; intro WA g hO; replace HO := hide hO; clear hO; have k0 : WA.cell? ⟨g, 0, none⟩ = some (at0 b) := HO.out.cells 0 rfl 0)
  have HR1 := hide (H.out.step HO.out.below)
  replace HO := hide (HO.out.plus [b] (by simpa using HBL.out))
  refine (rdInt_c b k l c _ HR1.out (by have := HL.out; omega)).mono ?_
  rintro e w2 ⟨rfl, hr2, ht2⟩
  have HX : Hid (rCnt (l, c) = if (rInt (l, c)).2 < 0 ∨ ((rInt (l, c)).1.1.length : Int) < (rInt (l, c)).2 then ((rCount (-1) (rInt (l, c)).1).1, 0) else ((rInt (l, c)).1, (rInt (l, c)).2.toNat)) := hide rfl
  have HLN : Hid ((rInt (l, c)).1.1.length ≤ 1000000000) := hide (Nat.le_trans (rInt_len _ _) HL.out)
  have HI := hide (rInt_i64 (l, c))
  replace HO := hide (HO.out.call ht2 (by simp))
  have HR2 := hide hr2
  generalize (rInt (l, c)).2 = z at *
  generalize (rInt (l, c)).1 = r1 at *
  clear hr2 ht2 k0
  have k0 : w2.cell? ⟨g, 0, none⟩ = some (at0 b) := HO.out.cells 0 rfl 0
  have HKW : Hid (∀ j, k = some j → j < w2.heap.size) := hide (fun j hj => Nat.lt_of_lt_of_le (HK.out j hj) HO.out.size)
  by_cases hz : z < 0
  · go_wp2_with fail
    refine (rdCount_c b k r1.1 r1.2 (-1) (by omega) w2 HR2.out (by have := HLN.out; omega) HKW.out).mono ?_
    rintro e w3 ⟨rfl, hr3, ht3⟩
    have HE : Hid (rCnt (l, c) = ((rCount (-1) r1).1, 0)) := hide (by rw [HX.out, if_pos (.inl hz)])
    have HR3 := hide hr3
    have HT3 := hide (HO.out.touch.trans ht3)
    clear hr3 ht3 hz
    go_wp2_with fail
    go_ret
    exact ⟨by rw [HE.out]; rfl, by rw [HE.out]; exact HR3.out, HT3.out⟩
  · have hz2 : decide (z < 0) = false := by simp [hz]
    go_wp2_with fail
    refine (left_c b k r1.1 r1.2 w2 HR2.out).mono ?_
    rintro e w3 ⟨rfl, rfl⟩
    have HE0 : Hid (¬ ((r1.1.length : Int) < z) → rCnt (l, c) = (r1, z.toNat)) := hide (fun h => by rw [HX.out, if_neg (by omega)])
    have HE1 : Hid ((r1.1.length : Int) < z → rCnt (l, c) = ((rCount (-1) r1).1, 0)) := hide (fun h => by rw [HX.out, if_pos (.inr h)])
    have hm7 := HLN.out
    generalize hmm : r1.1.length = m at *
    have HMM := hide hmm
    clear hmm
    by_cases hm : (m : Int) < z
    · go_wp2_with fail
      refine (rdCount_c b k r1.1 r1.2 (-1) (by omega) w2 HR2.out (by rw [HMM.out]; omega) HKW.out).mono ?_
      rintro e w3 ⟨rfl, hr3, ht3⟩
      have HE := hide (HE1.out hm)
      have HR3 := hide hr3
      have HT3 := hide (HO.out.touch.trans ht3)
      clear hr3 ht3 hm
      go_wp2_with fail
      go_ret
      exact ⟨by rw [HE.out]; rfl, by rw [HE.out]; exact HR3.out, HT3.out⟩
    · have HE := hide (HE0.out hm)
      have HZ : Hid (z = (z.toNat : Int)) := hide (by omega)
      have hm2 : decide ((m : Int) < z) = false := by simp [hm]
      have HT := hide HO.out.touch
      go_wp2_with fail
      go_ret
      exact ⟨by rw [HE.out]; exact ret_i64n HZ.out, by rw [HE.out]; exact HR2.out, HT.out⟩
/-- A list of a group's message. -/
def rGL (r : RS) : RS × List Int := rList (rCnt r).2 (rCnt r).1
set_option maxRecDepth 100000 in
set_option maxHeartbeats 4000000 in
theorem rlist_c (b : Nat) (k : Option Nat) (l : List UInt8) (c : Int) (w : World) (h : Rd w b k l c) (hl : l.length ≤ 1000000000) (hk : ∀ j, k = some j → j < w.heap.size) :
    Calls Try.prog 106 #[.agg #[at0 b]] w (GotL w b k (rGL (l, c)).1 (rGL (l, c)).2) := by
  have HBL := hide h.lt
  have HO := hide (Own.nil w [] (by simp))
  have H := hide h
  have HL := hide hl
  have HK := hide hk
  clear h hl hk
  go_enter Try.func106, Try.ntmps106
  go_wp2_with (first
    | ((with_reducible refine at_box 157 (.tmp 0) ?_); refine wpList_box_own HO.out rfl 157 (.tmp 0) rfl [at0 b] rfl ?_; intro WA g hO; replace HO := hide hO; clear hO)
    | ((with_reducible refine at_load 157 (.tmp 1) ?_); refine wpList_load_own HO.out rfl 157 (.tmp 1) rfl 0 _ 0 1 _ _ [at0 b] _ rfl rfl rfl Try.underlying157 rfl (by kernel_rfl) ?_))
  have HR1 := hide (H.out.step HO.out.below)
  replace HO := hide (HO.out.plus [b] (by simpa using HBL.out))
  have HK1 : Hid (∀ j, k = some j → j < WA.heap.size) := hide (fun j hj => Nat.lt_of_lt_of_le (HK.out j hj) HO.out.size)
  refine (count_c b k l c WA HR1.out HL.out HK1.out).mono ?_
  rintro e w2 ⟨rfl, hr2, ht2⟩
  have HX : Hid (rGL (l, c) = rList (rCnt (l, c)).2 (rCnt (l, c)).1) := hide rfl
  have HC2 : Hid ((rCnt (l, c)).2 ≤ 1000000000) := hide (Nat.le_trans (rCnt_le _) HL.out)
  have HRL : Hid ((rCnt (l, c)).1.1.length ≤ 1000000000) := hide (Nat.le_trans (rCnt_len _) HL.out)
  have HR2 := hide hr2
  replace HO := hide (HO.out.call ht2 (by simp))
  generalize (rCnt (l, c)).2 = n at *
  generalize (rCnt (l, c)).1 = r1 at *
  clear hr2 ht2
  have hn7 := HC2.out
  go_wp2_with fail
  go_loopw [3, 6] (fun v3 v6 wr => ∃ j : Nat, v6 = .int .i64 j ∧ j ≤ n ∧ OwI wr w.heap.size v3 (rList j r1).2 ∧ Rd wr b k (rList j r1).1.1 (rList j r1).1.2 ∧ Own w [b] ([] ++ [(g, 157, [at0 b])]) wr ∧ (∀ q, v3.ownBlock = some q → q ≠ g)) (fun _ v6 _ => n - (intOf v6).toNat)
  case atStart => exact ⟨0, rfl, Nat.zero_le _, OwI.nil _ _, HR2.out, HO.out, fun q hq => by cases hq⟩
  case round =>
    obtain ⟨j, rfl, hj, ho, hr, hown, hqg⟩ := hrel
    clear HR2 HO
    have HOI := hide ho
    have HR := hide hr
    have HO := hide hown
    have HQ := hide hqg
    have HJ := hide hj
    clear ho hr hown hqg
    by_cases hlt : j < n
    · have HLT := hide hlt
      have hji : (j : Int) < (n : Int) := by omega
      have k0 : wr.cell? ⟨g, 0, none⟩ = some (at0 b) := HO.out.cells 0 rfl 0
      clear hlt hj
      go_wp2_with fail
      refine (rdInt_c b k (rList j r1).1.1 (rList j r1).1.2 _ HR.out (by have := rList_len j r1; have := HRL.out; omega)).mono ?_
      rintro e w3 ⟨rfl, hr3, ht3⟩
      have HR3 : Hid (Rd w3 b k (rList (j + 1) r1).1.1 (rList (j + 1) r1).1.2) := hide hr3
      have HO3 := hide (HO.out.call ht3 (by simp))
      have HI3 := hide (HOI.out.touch ht3 (fun g hg hm => by have := (HOI.out.lt g hg).1; have := HBL.out; simp only [List.mem_singleton] at hm; omega))
      have HSN : Hid ((rList (j + 1) r1).2 = (rList j r1).2 ++ [(rInt ((rList j r1).1.1, (rList j r1).1.2)).2]) := hide rfl
      have HLJ : Hid ((rList j r1).2.length ≤ 1000000000) := hide (by rw [rList_size]; have := HC2.out; have := HLT.out; omega)
      generalize (rInt ((rList j r1).1.1, (rList j r1).1.2)).2 = z at *
      clear hr3 ht3 k0
      go_wp2_with (at_builtin; refine wpList_append_i rfl _ _ rfl (v := u3) (z := z) rfl HI3.out HO3.out.size rfl rfl HLJ.out ?_; intro v' w' hn' hb' hq'; have HN := hide hn'; have HB := hide hb'; have HQ2 := hide hq'; clear hn' hb' hq')
      have HOB : Hid (∀ q ∈ u3.ownBlock.toList, w.heap.size ≤ q) := hide (fun q hq => (HI3.out.lt q (by simpa using hq)).1)
      have HG : Hid (g < w3.heap.size ∧ w.heap.size ≤ g) := hide ⟨(HO3.out.blk 0 rfl).lt, HO3.out.new 0 rfl⟩
      have HON : Hid (Own w [b] ([] ++ [(g, 157, [at0 b])]) w') := hide ⟨fun e he => by
          obtain rfl : e = (g, 157, [at0 b]) := by simpa using he
          exact ⟨(HO3.out.blk 0 rfl).touch HB.out (fun hm => HQ.out g (by simpa using hm) rfl), HG.out.2⟩, by simp, HO3.out.touch.next HB.out (fun q hq => .inr (HOB.out q hq)), HO3.out.old⟩
      have HQN : Hid (∀ q, v'.ownBlock = some q → q ≠ g) := hide (fun q hq => by
        rcases HQ2.out with e | ⟨y, e, hy⟩
        · exact HQ.out q (by rw [← e]; exact hq)
        · rw [hq] at e; injection e with e; have := HG.out.1; omega)
      go_roundw
      case rel => exact ⟨j + 1, by go_num, HLT.out, by rw [HSN.out]; exact HN.out, HR3.out.touch HB.out (fun hm => by have := HOB.out _ hm; have := HBL.out; omega) (fun q hq hm => by have := HOB.out _ hm; have := HK.out q hq; omega), HON.out, HQN.out⟩
      case measure => have := HLT.out; simp [intOf]; omega
    · obtain rfl : j = n := by omega
      have HT := hide HO.out.touch
      clear hlt hj
      go_wp2_with fail
      go_ret
      exact ⟨_, rfl, by rw [HX.out]; exact HOI.out, by rw [HX.out]; exact HR.out, HT.out⟩
end Go.Proofs.Ytpbgelhjbfckcaa
/- Reading numbers into the places that pointers name. -/
namespace Go.Proofs.Ytpbgelhjbfckcaa
open Go.ChangeShapes Go.WideShapes Go.ChangeAt Go.RowKit
set_option linter.unusedVariables false
set_option linter.unusedSimpArgs false

theorem Ptrs.touch {S : List Nat} {w w' : World} {v : Value} {g : Nat} {offs : List Nat} (h : Ptrs w v g offs) (k : Touch S w w') (hv : ∀ q, v.ownBlock = some q → q ∉ S) : Ptrs w' v g offs := by
  obtain ⟨A, c, rfl, h1, h2, h3⟩ := h
  refine ⟨A, c, rfl, h1, h2, fun h0 => ?_⟩
  obtain ⟨p, o, rfl, hc⟩ := h3 h0
  refine ⟨p, o, rfl, fun i hi => ?_⟩
  have h5 := hc i hi
  have h6 : p < w.heap.size := block_lt_of_cell h5
  rw [World.cell?_of_block (k.block p h6 (hv p rfl))]
  exact h5
/-- Numbers set at places of a row. -/
def setI (cs : List Value) (ps : List (Nat × Int)) : List Value := ps.foldl (fun cs p => cs.set p.1 (.int .i64 p.2)) cs
theorem setI_snoc (cs : List Value) (ps : List (Nat × Int)) (p : Nat × Int) : setI cs (ps ++ [p]) = (setI cs ps).set p.1 (.int .i64 p.2) := by unfold setI; rw [List.foldl_append]; rfl
theorem setI_len (cs : List Value) (ps : List (Nat × Int)) : (setI cs ps).length = cs.length := by
  unfold setI
  induction ps generalizing cs with
  | nil => rfl
  | cons p r ih => rw [List.foldl_cons, ih, List.length_set]
theorem zip_snoc (ns : List Nat) (xs : List Int) (z : Int) (j : Nat) (hj : j < ns.length) (hx : xs.length = j) : (ns.take (j + 1)).zip (xs ++ [z]) = (ns.take j).zip xs ++ [(ns[j], z)] := by
  rw [List.take_add_one, List.getElem?_eq_getElem hj, List.zip_append (by rw [List.length_take]; omega)]
  rfl
set_option maxRecDepth 100000 in
set_option maxHeartbeats 4000000 in
theorem rints_c (b : Nat) (k : Option Nat) (l : List UInt8) (c : Int) (g : Nat) (t : TypeId) (cs : List Value) (ns : List Nat) (lv : Value) (w : World) (h : Rd w b k l c) (hp : Ptrs w lv g ns) (hB : Blk w g t cs.toArray) (hv : ∀ q, lv.ownBlock = some q → q ≠ g ∧ q ≠ b) (hgb : g ≠ b) (hkg : k ≠ some g)
    (hl : l.length ≤ 1000000000) (ho : ∀ o ∈ ns, o < cs.length) :
    Calls Try.prog 98 #[.agg #[at0 b], lv] w fun e w' => e = .returned (.tuple #[]) ∧ Rd w' b k (rList ns.length (l, c)).1.1 (rList ns.length (l, c)).1.2 ∧ Blk w' g t (setI cs (ns.zip (rList ns.length (l, c)).2)).toArray ∧ Touch [g, b] w w' := by
  obtain ⟨A, n, cp, rfl, hn, hnc, hcm⟩ := hp.form
  have HBL : Hid (b < w.heap.size ∧ g < w.heap.size) := hide ⟨h.lt, hB.lt⟩
  have HO := hide (Own.nil w [] (by simp))
  have H := hide h
  have HL := hide hl
  have HP := hide hp
  have HB := hide hB
  have HV := hide hv
  have HGB := hide hgb
  have HKG := hide hkg
  have HOF := hide ho
  clear h hl hp hB hv hgb hkg ho
  go_enter Try.func98, Try.ntmps98
  go_wp2_with ((with_reducible refine at_box 157 (.tmp 0) ?_); refine wpList_box_own HO.out rfl 157 (.tmp 0) rfl [at0 b] rfl ?_; intro WA q hO; replace HO := hide hO; clear hO)
  have HR1 := hide (H.out.step HO.out.below)
  have HB1 := hide (HB.out.step HO.out.below)
  replace HO := hide (HO.out.plus [g, b] (by intro s hs; simp only [List.mem_cons, List.not_mem_nil, or_false] at hs; rcases hs with rfl | rfl; exact HBL.out.2; exact HBL.out.1))
  go_loopw [8] (fun v8 wr => ∃ j : Nat, v8 = .int .i64 j ∧ j ≤ n ∧ Rd wr b k (rList j (l, c)).1.1 (rList j (l, c)).1.2 ∧ Blk wr g t (setI cs ((ns.take j).zip (rList j (l, c)).2)).toArray ∧ Own w [g, b] ([] ++ [(q, 157, [at0 b])]) wr) (fun v8 _ => n - (intOf v8).toNat)
  case atStart => exact ⟨0, rfl, Nat.zero_le _, HR1.out, HB1.out, HO.out⟩
  case round =>
    obtain ⟨j, rfl, hj, hr, hb, hown⟩ := hrel
    clear HR1 HB1 HO
    have HR := hide hr
    have HBB := hide hb
    have HO := hide hown
    have HJ := hide hj
    clear hr hb hown
    by_cases hlt : j < n
    · have hjl : j < ns.length := by rw [← hn.out]; exact hlt
      obtain ⟨p, o, rfl, hcp⟩ := (HP.out.touch HO.out.touch (fun y hy => by have := HV.out y hy; simp; exact this)).at_ j hjl
      have hok : ns[j] < cs.length := HOF.out _ (List.getElem_mem hjl)
      have HZ := hide (fun z => zip_snoc ns (rList j (l, c)).2 z j hjl (rList_size _ _))
      have HOK : Hid (ns[j] < (setI cs ((ns.take j).zip (rList j (l, c)).2)).length) := hide (by rw [setI_len]; exact hok)
      generalize ns[j] = ok at *
      have HLT := hide hlt
      have hji : (j : Int) < (n : Int) := by omega
      have k0 : wr.cell? ⟨q, 0, none⟩ = some (at0 b) := HO.out.cells 0 rfl 0
      clear hlt hj hjl hok
      go_wp2_with fail
      refine (rdInt_c b k (rList j (l, c)).1.1 (rList j (l, c)).1.2 _ HR.out (by have := rList_len j (l, c); have := HL.out; simp only at *; omega)).mono ?_
      rintro e w3 ⟨rfl, hr3, ht3⟩
      have HR3 : Hid (Rd w3 b k (rList (j + 1) (l, c)).1.1 (rList (j + 1) (l, c)).1.2) := hide hr3
      have HO3 := hide (HO.out.call ht3 (by simp))
      have HB3 := hide (HBB.out.touch ht3 (by simpa using HGB.out))
      have HSN : Hid ((rList (j + 1) (l, c)).2 = (rList j (l, c)).2 ++ [(rInt ((rList j (l, c)).1.1, (rList j (l, c)).1.2)).2]) := hide rfl
      generalize (rInt ((rList j (l, c)).1.1, (rList j (l, c)).1.2)).2 = z at *
      obtain ⟨u, hu⟩ : ∃ u, (setI cs ((ns.take j).zip (rList j (l, c)).2))[ok]? = some u := ⟨_, List.getElem?_eq_getElem HOK.out⟩
      have c3 : w3.cell? ⟨g, ok, none⟩ = some u := (HB3.out.cell ok).trans (by simpa using hu)
      have f3 := HB3.out.froz ok
      clear hr3 ht3 k0 hcp hu
      go_wp2_with fail
      have HTS : Hid (Touch [g] w3 (w3.setCell ⟨g, ok, none⟩ (.int .i64 z))) := hide ((Touch.refl [g] w3).set (.inl (by simp)) ok _)
      go_roundw
      case rel =>
        refine ⟨j + 1, by go_num, HLT.out, HR3.out.touch HTS.out (by simpa using Ne.symm HGB.out) (fun y hy hm => HKG.out (by rw [hy]; simpa using hm)), ?_, HO3.out.call HTS.out (by simp)⟩
        rw [HSN.out, HZ.out, setI_snoc]
        have := HB3.out.put ok (.int .i64 z)
        rwa [List.setIfInBounds_toArray] at this
      case measure => have := HLT.out; simp [intOf]; omega
    · obtain rfl : j = n := by omega
      have HT := hide HO.out.touch
      clear hlt hj
      go_wp2_with fail
      go_end0
      have e := hn.out
      subst e
      exact ⟨rfl, HR.out, by have := HBB.out; rwa [List.take_length] at this, HT.out⟩
end Go.Proofs.Ytpbgelhjbfckcaa
/- What a field of parts reads. -/
namespace Go.Proofs.Ytpbgelhjbfckcaa
open Go.ChangeShapes Go.WideShapes Go.ChangeAt Go.RowKit
set_option linter.unusedVariables false
set_option linter.unusedSimpArgs false

/-- Values set at places of a row. -/
def setV (cs : List Value) (ps : List (Nat × Value)) : List Value := ps.foldl (fun cs p => cs.set p.1 p.2) cs
theorem setV_snoc (cs : List Value) (ps : List (Nat × Value)) (p : Nat × Value) : setV cs (ps ++ [p]) = (setV cs ps).set p.1 p.2 := by unfold setV; rw [List.foldl_append]; rfl
theorem setV_len (cs : List Value) (ps : List (Nat × Value)) : (setV cs ps).length = cs.length := by
  unfold setV
  induction ps generalizing cs with
  | nil => rfl
  | cons p r ih => rw [List.foldl_cons, ih, List.length_set]
theorem zipV_snoc (ns : List Nat) (xs : List Value) (z : Value) (j : Nat) (hj : j < ns.length) (hx : xs.length = j) : (ns.take (j + 1)).zip (xs ++ [z]) = (ns.take j).zip xs ++ [(ns[j], z)] := by
  rw [List.take_add_one, List.getElem?_eq_getElem hj, List.zip_append (by rw [List.length_take]; omega)]
  rfl
/-- n lists, one after the other. -/
def rLists : Nat → RS → RS × List (List Int)
  | 0, r => (r, [])
  | n + 1, r => ((rInts (rLists n r).1).1, (rLists n r).2 ++ [(rInts (rLists n r).1).2])
theorem rInts_len (r : RS) : (rInts r).1.1.length ≤ r.1.length := Nat.le_trans (rList_len _ _) (rCount_len _ _ _)
theorem rInts_i64 (r : RS) : ∀ x ∈ (rInts r).2, I64 x := rList_i64 _ _
theorem rLists_len (n : Nat) (r : RS) : (rLists n r).1.1.length ≤ r.1.length := by
  induction n with
  | zero => exact Nat.le_refl _
  | succ n ih => exact Nat.le_trans (rInts_len _) ih
theorem rLists_size (n : Nat) (r : RS) : (rLists n r).2.length = n := by
  induction n with
  | zero => rfl
  | succ n ih => show ((rLists n r).2 ++ [_]).length = _; rw [List.length_append, ih]; rfl
theorem LiAB.formN {w : World} {A0 B : Nat} {v : Value} {l : List Int} (h : LiAB w A0 B v l) : ∃ A n c, v = .slice A n c := by obtain ⟨A, c, e, _⟩ := h; exact ⟨_, _, _, e⟩
theorem LiAB.lower {w : World} {A0 A1 B : Nat} {v : Value} {l : List Int} (h : LiAB w A0 B v l) (hA : A1 ≤ A0) : LiAB w A1 B v l := by
  obtain ⟨A, c, e, h1, h2, h3, h4⟩ := h
  exact ⟨A, c, e, h1, h2, h3, fun h0 => by obtain ⟨g, o, e1, ha, hg, ht, hc⟩ := h4 h0; exact ⟨g, o, e1, by omega, hg, ht, hc⟩⟩
/-- The values are the lists. -/
def VsAt (w : World) (A0 : Nat) (vs : List Value) (lss : List (List Int)) : Prop := vs.length = lss.length ∧ ∀ i (h : i < vs.length) (h2 : i < lss.length), LiAB w A0 w.heap.size vs[i] lss[i]
theorem VsAt.nil (w : World) (A0 : Nat) : VsAt w A0 [] [] := ⟨rfl, fun i h => by cases h⟩
theorem VsAt.touch {w w' : World} {A0 : Nat} {vs : List Value} {lss : List (List Int)} {S : List Nat} (h : VsAt w A0 vs lss) (k : Touch S w w') (hS : ∀ s ∈ S, s < A0) : VsAt w' A0 vs lss :=
  ⟨h.1, fun i h1 h2 => (h.2 i h1 h2).touch k (Nat.le_refl _) hS⟩
theorem VsAt.snoc {w : World} {A0 : Nat} {vs : List Value} {lss : List (List Int)} {v : Value} {l : List Int} (h : VsAt w A0 vs lss) (hv : LiAB w A0 w.heap.size v l) : VsAt w A0 (vs ++ [v]) (lss ++ [l]) := by
  refine ⟨by simp [h.1], fun i h1 h2 => ?_⟩
  by_cases hi : i < vs.length
  · rw [List.getElem_append_left hi, List.getElem_append_left (by rw [← h.1]; exact hi)]
    exact h.2 i hi _
  · rw [List.length_append] at h1
    simp only [List.length_cons, List.length_nil] at h1
    have e : i = vs.length := by omega
    subst e
    have e2 := h.1
    simp only [List.getElem_append_right (Nat.le_refl _), Nat.sub_self, List.getElem_cons_zero]
    have : (lss ++ [l])[vs.length] = l := by simp [e2]
    rw [this]
    exact hv
set_option maxRecDepth 100000 in
set_option maxHeartbeats 8000000 in
theorem pread_c (rb : Nat) (k : Option Nat) (lb : List UInt8) (c : Int) (b : Nat) (t : TypeId) (cs : List Value) (ns ls : List Nat) (bn bl : Nat) (vn vl : Value) (A0 : Nat) (w : World) (h : Rd w rb k lb c)
    (h1 : w.cell? ⟨bn, 0, none⟩ = some vn) (h2 : w.cell? ⟨bl, 0, none⟩ = some vl) (hn : Ptrs w vn b ns) (hl : Ptrs w vl b ls) (hvn : ∀ q, vn.ownBlock = some q → q ≠ b ∧ q ≠ rb) (hvl : ∀ q, vl.ownBlock = some q → q ≠ b ∧ q ≠ rb) (hbl : bl ≠ b ∧ bl ≠ rb)
    (hB : Blk w b t cs.toArray) (hgb : b ≠ rb) (hkg : k ≠ some b) (hk : ∀ j, k = some j → j < w.heap.size) (hlb : lb.length ≤ 1000000000) (hns : ∀ o ∈ ns, o < cs.length) (hls : ∀ o ∈ ls, o < cs.length) (hA : b < A0 ∧ rb < A0 ∧ A0 ≤ w.heap.size) :
    Calls Try.prog 84 #[at0 rb, at0 bn, at0 bl] w fun e w' => e = .returned (.tuple #[]) ∧ ∃ vs, VsAt w' A0 vs (rLists ls.length (rList ns.length (lb, c)).1).2 ∧ Rd w' rb k (rLists ls.length (rList ns.length (lb, c)).1).1.1 (rLists ls.length (rList ns.length (lb, c)).1).1.2 ∧
      Blk w' b t (setV (setI cs (ns.zip (rList ns.length (lb, c)).2)) (ls.zip vs)).toArray ∧ Touch [b, rb] w w' := by
  obtain ⟨A, n, cp, rfl, hnn, hnc, hcm⟩ := hn.form
  obtain ⟨D, m, d, rfl, hmm, hmd, hdm⟩ := hl.form
  have H := hide h
  have HP := hide hn
  have HPL := hide hl
  have HVN := hide hvn
  have HVL := hide hvl
  have HBL := hide hbl
  have HC2 := hide h2
  have HB := hide hB
  have HGB := hide hgb
  have HKG := hide hkg
  have HK := hide hk
  have HLB := hide hlb
  have HNS := hide hns
  have HLS := hide hls
  have HA := hide hA
  have HT0 : Hid (Touch [b, rb] w w) := hide (Touch.refl _ _)
  clear h h2 hn hl hvn hvl hbl hB hgb hkg hk hlb hns hls hA
  go_enter Try.func84, Try.ntmps84
  go_wp2_with fail
  go_loopw [10] (fun v10 wr => ∃ j : Nat, v10 = .int .i64 j ∧ j ≤ n ∧ Rd wr rb k (rList j (lb, c)).1.1 (rList j (lb, c)).1.2 ∧ Blk wr b t (setI cs ((ns.take j).zip (rList j (lb, c)).2)).toArray ∧ Touch [b, rb] w wr) (fun v10 _ => n - (intOf v10).toNat)
  case atStart => exact ⟨0, rfl, Nat.zero_le _, H.out, HB.out, HT0.out⟩
  case round =>
    obtain ⟨j, rfl, hj, hr, hb, ht⟩ := hrel
    have HR := hide hr
    have HBB := hide hb
    have HT := hide ht
    have HJ := hide hj
    clear hr hb ht h1 HT0
    by_cases hlt : j < n
    · have hjl : j < ns.length := by rw [← hnn.out]; exact hlt
      obtain ⟨p, o, rfl, hcp⟩ := (HP.out.touch HT.out (fun y hy => by have := HVN.out y hy; simp; exact this)).at_ j hjl
      have hok : ns[j] < cs.length := HNS.out _ (List.getElem_mem hjl)
      have HZ := hide (fun z => zip_snoc ns (rList j (lb, c)).2 z j hjl (rList_size _ _))
      have HOK : Hid (ns[j] < (setI cs ((ns.take j).zip (rList j (lb, c)).2)).length) := hide (by rw [setI_len]; exact hok)
      generalize ns[j] = ok at *
      have HLT := hide hlt
      have hji : (j : Int) < (n : Int) := by omega
      clear hlt hj hjl hok
      go_wp2_with fail
      refine (rdInt_c rb k (rList j (lb, c)).1.1 (rList j (lb, c)).1.2 _ HR.out (by have := rList_len j (lb, c); have := HLB.out; simp only at *; omega)).mono ?_
      rintro e w3 ⟨rfl, hr3, ht3⟩
      have HR3 : Hid (Rd w3 rb k (rList (j + 1) (lb, c)).1.1 (rList (j + 1) (lb, c)).1.2) := hide hr3
      have HT3 := hide (HT.out.next ht3 (fun s hs => .inl (List.mem_cons_of_mem _ hs)))
      have HB3 := hide (HBB.out.touch ht3 (by simpa using HGB.out))
      have HSN : Hid ((rList (j + 1) (lb, c)).2 = (rList j (lb, c)).2 ++ [(rInt ((rList j (lb, c)).1.1, (rList j (lb, c)).1.2)).2]) := hide rfl
      generalize (rInt ((rList j (lb, c)).1.1, (rList j (lb, c)).1.2)).2 = z at *
      obtain ⟨u, hu⟩ : ∃ u, (setI cs ((ns.take j).zip (rList j (lb, c)).2))[ok]? = some u := ⟨_, List.getElem?_eq_getElem HOK.out⟩
      have c3x : w3.cell? ⟨b, ok, none⟩ = some u := (HB3.out.cell ok).trans (by simpa using hu)
      have f3 := HB3.out.froz ok
      clear hr3 ht3 hcp hu
      go_wp2_with fail
      have HTS : Hid (Touch [b] w3 (w3.setCell ⟨b, ok, none⟩ (.int .i64 z))) := hide ((Touch.refl [b] w3).set (.inl (by simp)) ok _)
      go_roundw
      case rel =>
        refine ⟨j + 1, by go_num, HLT.out, HR3.out.touch HTS.out (by simpa using Ne.symm HGB.out) (fun y hy hm => HKG.out (by rw [hy]; simpa using hm)), ?_, HT3.out.next HTS.out (fun s hs => .inl (by simp only [List.mem_singleton] at hs; simp [hs]))⟩
        rw [HSN.out, HZ.out, setI_snoc]
        have := HB3.out.put ok (.int .i64 z)
        rwa [List.setIfInBounds_toArray] at this
      case measure => have := HLT.out; simp [intOf]; omega
    · obtain rfl : j = n := by omega
      have k2 : wr.cell? ⟨bl, 0, none⟩ = some (.slice D m d) := by
        rw [World.cell?_of_block (HT.out.block bl (block_lt_of_cell HC2.out) (by simpa using HBL.out))]
        exact HC2.out
      have HRN : Hid (Rd wr rb k (rList ns.length (lb, c)).1.1 (rList ns.length (lb, c)).1.2) := hide (by rw [← hnn.out]; exact HR.out)
      have HBN : Hid (Blk wr b t (setI cs (ns.zip (rList ns.length (lb, c)).2)).toArray) := hide (by have := HBB.out; rw [hnn.out, List.take_length] at this; exact this)
      have HRL : Hid ((rList ns.length (lb, c)).1.1.length ≤ 1000000000) := hide (Nat.le_trans (rList_len _ _) HLB.out)
      have HCL : Hid ((setI cs (ns.zip (rList ns.length (lb, c)).2)).length = cs.length) := hide (setI_len _ _)
      clear hlt hj HR HBB
      generalize hcs1 : setI cs (ns.zip (rList ns.length (lb, c)).2) = cs1 at *
      generalize hr1 : (rList ns.length (lb, c)).1 = r1 at *
      have HCE := hide hcs1
      have HRE := hide hr1
      clear hcs1 hr1
      go_wp2_with fail
      go_loopw [21] (fun v21 wr => ∃ (i : Nat) (vs : List Value), v21 = .int .i64 i ∧ i ≤ m ∧ VsAt wr A0 vs (rLists i r1).2 ∧ Rd wr rb k (rLists i r1).1.1 (rLists i r1).1.2 ∧ Blk wr b t (setV cs1 ((ls.take i).zip vs)).toArray ∧ Touch [b, rb] w wr) (fun v21 _ => m - (intOf v21).toNat)
      case atStart => exact ⟨0, [], rfl, Nat.zero_le _, VsAt.nil _ _, HRN.out, HBN.out, HT.out⟩
      case round =>
        obtain ⟨i, vs, rfl, hi, hvs, hr, hb, ht⟩ := hrel
        have HVS := hide hvs
        have HR := hide hr
        have HBB := hide hb
        clear hvs hr hb HT HRN HBN k2
        have HT := hide ht
        have HI := hide hi
        clear ht
        by_cases hlt : i < m
        · have hil : i < ls.length := by rw [← hmm.out]; exact hlt
          obtain ⟨p, o, rfl, hcp⟩ := (HPL.out.touch HT.out (fun y hy => by have := HVL.out y hy; simp; exact this)).at_ i hil
          have hok : ls[i] < cs1.length := by rw [HCL.out]; exact HLS.out _ (List.getElem_mem hil)
          have HZ := hide (fun z => zipV_snoc ls vs z i hil (by rw [HVS.out.1, rLists_size]))
          have HOK : Hid (ls[i] < (setV cs1 ((ls.take i).zip vs)).length) := hide (by rw [setV_len]; exact hok)
          generalize ls[i] = ok at *
          have HLT := hide hlt
          have hji : (i : Int) < (m : Int) := by omega
          clear hlt hi hil hok
          go_wp2_with fail
          refine (readInts_c rb k (rLists i r1).1.1 (rLists i r1).1.2 _ HR.out (Nat.le_trans (rLists_len i r1) HRL.out) (fun y hy => Nat.lt_of_lt_of_le (HK.out y hy) HT.out.size)).mono ?_
          rintro e w3 ⟨v3, rfl, ho3, hr3, ht3⟩
          have hli := (ho3.li (rInts_i64 _)).lower (Nat.le_trans HA.out.2.2 HT.out.size)
          obtain ⟨A3, n3, c3, rfl⟩ := hli.formN
          have HR3 : Hid (Rd w3 rb k (rLists (i + 1) r1).1.1 (rLists (i + 1) r1).1.2) := hide hr3
          have HT3 := hide (HT.out.next ht3 (fun s hs => .inl (List.mem_cons_of_mem _ hs)))
          have HB3 := hide (HBB.out.touch ht3 (by simpa using HGB.out))
          have HV3 : Hid (VsAt w3 A0 (vs ++ [.slice A3 n3 c3]) (rLists (i + 1) r1).2) := hide ((HVS.out.touch ht3 (fun s hs => by simp only [List.mem_singleton] at hs; rw [hs]; exact HA.out.2.1)).snoc hli)
          obtain ⟨u, hu⟩ : ∃ u, (setV cs1 ((ls.take i).zip vs))[ok]? = some u := ⟨_, List.getElem?_eq_getElem HOK.out⟩
          have c3x : w3.cell? ⟨b, ok, none⟩ = some u := (HB3.out.cell ok).trans (by simpa using hu)
          have f3 := HB3.out.froz ok
          clear ho3 hli hr3 ht3 hcp hu
          go_wp2_with fail
          have HTS : Hid (Touch [b] w3 (w3.setCell ⟨b, ok, none⟩ (.slice A3 n3 c3))) := hide ((Touch.refl [b] w3).set (.inl (by simp)) ok _)
          go_roundw
          case rel =>
            refine ⟨i + 1, vs ++ [.slice A3 n3 c3], by go_num, HLT.out, HV3.out.touch HTS.out (fun s hs => by simp only [List.mem_singleton] at hs; rw [hs]; exact HA.out.1), HR3.out.touch HTS.out (by simpa using Ne.symm HGB.out) (fun y hy hm => HKG.out (by rw [hy]; simpa using hm)), ?_, HT3.out.next HTS.out (fun s hs => .inl (by simp only [List.mem_singleton] at hs; simp [hs]))⟩
            rw [HZ.out, setV_snoc]
            have := HB3.out.put ok (.slice A3 n3 c3)
            rwa [List.setIfInBounds_toArray] at this
          case measure => have := HLT.out; simp [intOf]; omega
        · obtain rfl : i = m := by omega
          have e := hmm.out
          clear hlt hi
          go_wp2_with fail
          go_end0
          subst e
          rw [HCE.out, HRE.out]
          exact ⟨rfl, vs, HVS.out, HR.out, by have := HBB.out; rwa [List.take_length] at this, HT.out⟩
end Go.Proofs.Ytpbgelhjbfckcaa
