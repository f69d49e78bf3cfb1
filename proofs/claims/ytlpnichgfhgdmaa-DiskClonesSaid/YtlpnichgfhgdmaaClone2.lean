/- Clone. -/
import Derived.Test.YtlpnichgfhgdmaaRead
import Derived.WalkSpells
namespace Go.Proofs.Ytlpnichgfhgdmaa
open Go.ChangeShapes Go.WideShapes Go.ChangeAt Go.RowKit
set_option linter.unusedVariables false
set_option linter.unusedSimpArgs false

theorem wpList_append_any {P : Program} {w : World} {ops : Array Oper} {rest : List Oper} {o : Oper} {a : Act} {Q : Exit → Act → World → Prop} (hgd : o.guard = none) (s x : Operand) (t : TypeId)
    (ho : o.op = .call { callee := .builtin .append, args := #[s, x], argTypes := #[t, t] })
    (base : Nat) (e : TypeId) (i : TypeInfo) (z : Value) (size bytes : Nat) (ht : P.underlying t = some (.slice e)) (hi : P.info? e = some i) (hz : i.zero = some z)
    (hsize : i.size = size) (hby : i.bytes = bytes) (hzs : z.cells.size = size) (hsz : 0 < size)
    (v : Value) (n : Nat) (xs : List Value) (hs : a.eval s = v) (hown : w.ownsRow base e size v n xs)
    (ad : Addr) (m c : Nat) (news : List Value) (hx : a.eval x = .slice (some ad) m c) (hl : news.length = m * size) (hnews : ∀ j u, news[j]? = some u → w.cell? (ad.add j) = some u) (h1 : ∀ u ∈ news, u.oneCell' = true)
    (h63 : n + m ≤ maxLen) (hbytes : (n + m) * bytes ≤ 140737488355328) (hbase : base ≤ w.heap.size)
    (h : ∀ v' w', w'.ownsRow base e size v' (n + m) (xs ++ news) → w.grownBy w' v.ownBlock → wpList P ops Q rest (a.put o.dst v') w') : wpList P ops Q (o :: rest) a w := by
  refine wpList_plain hgd fun K hK => ?_
  obtain ⟨v', w', hr, h2, h3, _, _⟩ := run_append_own_at (P := P) w base t o.type e i z size bytes ht hi hz hsize hby hzs hsz v n xs hown ad m c news hl hnews h1 h63 hbytes hbase
  unfold Oper.wp execOp
  simp only [ho, resolve, invoke, builtin, Sem.run_bind, Sem.run_pure, Result.andThen_ok, List.map_toArray, List.map_cons, List.map_nil, hs, hx, hr]
  exact hK _ _ (h v' w' h2 h3)
/-- A copy of a row in new memory. -/
def FreshRow (w : World) (t : TypeId) (size n : Nat) (cs : List Value) (e : Ending) (w' : World) : Prop := ∃ v, e = .returned v ∧ w'.ownsRow w.heap.size t size v n cs ∧ Below w.heap.size w w'
theorem ownsRow_low {w : World} {base : Nat} {t : TypeId} {size : Nat} {v : Value} {n : Nat} {cs : List Value} (h : w.ownsRow base t size v n cs) : Row w t size v n cs := by
  refine ⟨h.1, ?_⟩
  rcases h.2 with hn | ⟨g, cap, cur, rfl, hb, rest⟩
  · exact .inl hn
  · exact .inr ⟨g, cap, cur, rfl, Nat.zero_le _, rest⟩
theorem ownsRow_empty (w : World) (base : Nat) (t : TypeId) (size : Nat) (h : base ≤ w.heap.size) : (w.alloc (.cells #[] t)).ownsRow base t size (.slice (some ⟨w.heap.size, 0, none⟩) 0 0) 0 [] :=
  ⟨by simp, .inr ⟨w.heap.size, 0, #[], rfl, h, heap_alloc_new w _, Nat.le_refl _, by unfold maxLen; omega, by simp, by simp⟩⟩
theorem info_arr3 : (Try.prog.info? 64).map (fun i => (i.zero, i.size, i.bytes)) = some (some (.agg (Array.replicate 128 (.int .u8 0))), 128, 128) := info_page

set_option maxHeartbeats 1000000 in
theorem clone_pages (v : Value) (n : Nat) (cs : List Value) (w : World) (h : Row w 64 128 v n cs) (hcs : cs.length = n * 128) (hn : n ≤ 1000000) (hone : ∀ u ∈ cs, u.oneCell' = true) :
    Calls Try.prog 36 #[v] w (FreshRow w 64 128 n cs) := by
  obtain ⟨A, c, rfl, hc, hm⟩ := h.form
  have H := hide h
  have HN := hide hn
  have HCS := hide hcs
  have HONE := hide hone
  clear h hn hc hm hcs hone
  have heq := fun (w : World) (A : Option Addr) (n c : Nat) => Lib.run_eql_slice_nil (P := Try.prog) w 60 64 A n c 0 0 Try.underlying60
  obtain ⟨i0, hi0, hz0, hz1, hz2⟩ := info_parts info_arr3
  cases A with
  | none =>
    have hnil : n = 0 ∧ cs = [] := by
      obtain ⟨hl, ⟨hv, h0⟩ | ⟨g, cap, cur, hv, _⟩⟩ := H.out
      · exact ⟨h0, List.eq_nil_of_length_eq_zero (by rw [hl, h0, Nat.zero_mul])⟩
      · cases hv
    obtain ⟨rfl, rfl⟩ := hnil
    go_enter Try.func36, Try.ntmps36
    go_wp2_with fail
    go_ret
    exact ⟨_, rfl, World.ownsRow_nil _ _ _ _, Below.refl _ _⟩
  | some a =>
    have HSRC : Hid (∀ j u, cs[j]? = some u → (w.alloc (.cells #[] 64)).cell? (a.add j) = some u) := hide (fun j u hj => by
      obtain ⟨hl, ⟨hv, h0⟩ | ⟨g, cap, cur, hv, hb, hh, hn2, hm2, hs2, ht2⟩⟩ := H.out
      · cases hv
      · obtain rfl : a = ⟨g, 0, none⟩ := by injection hv with e1 e2 e3; injection e1
        have hlt := (World.ownsRow.lt H.out g rfl).2
        have := World.ownsRow.cells H.out (g := g) rfl j u hj
        exact (((Below.refl w.heap.size w).alloc (Nat.le_refl _) (.cells #[] 64)).cell (p := (⟨g, 0, none⟩ : Addr).add j) (by rw [add_plain]; exact hlt)).trans this)
    go_enter Try.func36, Try.ntmps36
    go_wp2_with (at_builtin; refine wpList_append_any rfl (.tmp 5) (.tmp 6) 60 rfl w.heap.size 64 i0 _ 128 128 Try.underlying60 hi0 hz0 hz1 hz2 (by simp [Value.cells]) (by decide) _ 0 [] rfl (ownsRow_empty w w.heap.size 64 128 (Nat.le_refl _)) a n c cs rfl HCS.out HSRC.out HONE.out (by have := HN.out; unfold maxLen; omega) (by have := HN.out; omega) (by simp) ?_; intro v1 w1 how hg)
    go_ret
    rw [Nat.zero_add, List.nil_append] at how
    exact ⟨_, rfl, how, ((Below.refl w.heap.size w).alloc (Nat.le_refl _) _).grown hg (by simp) (fun k e => Nat.le_of_eq (Option.some.inj (e : some w.heap.size = some k)))⟩

set_option maxHeartbeats 1000000 in
theorem clone_pend (v : Value) (n : Nat) (cs : List Value) (w : World) (h : Row w 71 129 v n cs) (hcs : cs.length = n * 129) (hn : n ≤ 1000000) (hone : ∀ u ∈ cs, u.oneCell' = true) :
    Calls Try.prog 37 #[v] w (FreshRow w 71 129 n cs) := by
  obtain ⟨A, c, rfl, hc, hm⟩ := h.form
  have H := hide h
  have HN := hide hn
  have HCS := hide hcs
  have HONE := hide hone
  clear h hn hc hm hcs hone
  have heq := fun (w : World) (A : Option Addr) (n c : Nat) => Lib.run_eql_slice_nil (P := Try.prog) w 61 71 A n c 0 0 Try.underlying61
  obtain ⟨i0, hi0, hz0, hz1, hz2⟩ := info_parts info_write
  cases A with
  | none =>
    have hnil : n = 0 ∧ cs = [] := by
      obtain ⟨hl, ⟨hv, h0⟩ | ⟨g, cap, cur, hv, _⟩⟩ := H.out
      · exact ⟨h0, List.eq_nil_of_length_eq_zero (by rw [hl, h0, Nat.zero_mul])⟩
      · cases hv
    obtain ⟨rfl, rfl⟩ := hnil
    go_enter Try.func37, Try.ntmps37
    go_wp2_with fail
    go_ret
    exact ⟨_, rfl, World.ownsRow_nil _ _ _ _, Below.refl _ _⟩
  | some a =>
    have HSRC : Hid (∀ j u, cs[j]? = some u → (w.alloc (.cells #[] 71)).cell? (a.add j) = some u) := hide (fun j u hj => by
      obtain ⟨hl, ⟨hv, h0⟩ | ⟨g, cap, cur, hv, hb, hh, hn2, hm2, hs2, ht2⟩⟩ := H.out
      · cases hv
      · obtain rfl : a = ⟨g, 0, none⟩ := by injection hv with e1 e2 e3; injection e1
        have hlt := (World.ownsRow.lt H.out g rfl).2
        have := World.ownsRow.cells H.out (g := g) rfl j u hj
        exact (((Below.refl w.heap.size w).alloc (Nat.le_refl _) (.cells #[] 71)).cell (p := (⟨g, 0, none⟩ : Addr).add j) (by rw [add_plain]; exact hlt)).trans this)
    go_enter Try.func37, Try.ntmps37
    go_wp2_with (at_builtin; refine wpList_append_any rfl (.tmp 5) (.tmp 6) 61 rfl w.heap.size 71 i0 _ 129 136 Try.underlying61 hi0 hz0 hz1 hz2 (by simp [Value.cells]) (by decide) _ 0 [] rfl (ownsRow_empty w w.heap.size 71 129 (Nat.le_refl _)) a n c cs rfl HCS.out HSRC.out HONE.out (by have := HN.out; unfold maxLen; omega) (by have := HN.out; omega) (by simp) ?_; intro v1 w1 how hg)
    go_ret
    rw [Nat.zero_add, List.nil_append] at how
    exact ⟨_, rfl, how, ((Below.refl w.heap.size w).alloc (Nat.le_refl _) _).grown hg (by simp) (fun k e => Nat.le_of_eq (Option.some.inj (e : some w.heap.size = some k)))⟩

theorem pendCells_len (ws : List (Nat × List UInt8)) (h : ∀ x ∈ ws, x.2.length = 128) : (pendCells ws).length = ws.length * 129 := by
  induction ws with
  | nil => rfl
  | cons x ws ih =>
    have e : pendCells (x :: ws) = wcells x ++ pendCells ws := by simp [pendCells]
    rw [e, List.length_append, ih (fun y hy => h y (by simp [hy])), wcells_len x.1 x.2 (h x (by simp)), List.length_cons]; omega
theorem hone_pend (ws : List (Nat × List UInt8)) : ∀ u ∈ pendCells ws, u.oneCell' = true := fun u hu => by
  unfold pendCells at hu
  obtain ⟨l, hl, hul⟩ := List.mem_flatten.1 hu
  obtain ⟨x, _, rfl⟩ := List.mem_map.1 hl
  exact hone_wcells x.1 x.2 u hul

set_option maxRecDepth 100000 in
set_option maxHeartbeats 2000000 in
theorem clone_c (d : Nat) (F : List Nat) (D : DS) (w : World) (h : Disk w d F D) (h1 : D.pages.length ≤ 1000000) (h2 : D.pend.length ≤ 1000000) :
    Calls Try.prog 25 #[.pointer (some ⟨d, 0, none⟩)] w fun e w' => ∃ d2 F2, e = .returned (.pointer (some ⟨d2, 0, none⟩)) ∧ d2 ≠ d ∧ Disk w' d2 F2 D ∧ Below w.heap.size w w' ∧ ∀ j ∈ F2, w.heap.size ≤ j := by
  obtain ⟨gv, pv, hdk⟩ := h
  obtain ⟨c0, c1, c2, c3, f0, f1, f2, f3⟩ := hdk.cells
  obtain ⟨A, c, rfl, hc, hcm⟩ := hdk.pages.form
  obtain ⟨B, b, rfl, hb, hbm⟩ := hdk.pend.form
  have H := hide hdk
  obtain ⟨np, hnp⟩ : ∃ np, np = D.pages.length := ⟨_, rfl⟩
  obtain ⟨nq, hnq⟩ : ∃ nq, nq = D.pend.length := ⟨_, rfl⟩
  rw [← hnp] at c0 hc H h1
  rw [← hnq] at c1 hb H h2
  have HNP := hide hnp
  have HNQ := hide hnq
  have H1 := hide h1
  have H2 := hide h2
  clear hdk hnp hnq h1 h2
  have HINF : Hid (d < w.heap.size) := hide (H.out.lt d H.out.inF)
  go_enter Try.func25, Try.ntmps25
  go_wp2_with fail
  obtain ⟨w1, hw1⟩ : ∃ w1, w1 = w.alloc (.cells #[.slice A np c, .slice B nq b, .int .i64 D.fuse, .bool D.failed] 63) := ⟨_, rfl⟩
  rw [← hw1]
  have kw1 : Below w.heap.size w w1 := by rw [hw1]; exact (Below.refl _ w).alloc (Nat.le_refl _) _
  have hsz1 : w1.heap.size = w.heap.size + 1 := by rw [hw1]; simp
  have HBN : Hid (Blk w1 w.heap.size 63 #[.slice A np c, .slice B nq b, .int .i64 D.fuse, .bool D.failed]) := hide (by rw [hw1]; exact Blk.new w _ _)
  have HDK := hide (H.out.step kw1)
  have HC1 : Hid (w1.drew.cell? ⟨d, 0, none⟩ = some (.slice A np c)) := hide (HDK.out.blk.cell 0)
  have HC2 : Hid (w1.drew.cell? ⟨d, 1, none⟩ = some (.slice B nq b)) := hide (HDK.out.blk.cell 1)
  have HR1 : Hid (Row w1.drew 64 128 (.slice A np c) np (pcells D.pages)) := hide (by have := HDK.out.pages; rw [← HNP.out] at this; exact this)
  have HKW := hide kw1
  have HSZ := hide hsz1
  clear hw1 kw1 hsz1 c0 c1 c2 c3 f0 f1 f2 f3
  refine wp_region_held_drew (S := fun w' => w'.cell? ⟨d, 0, none⟩ = some (.slice A np c) ∧ w'.cell? ⟨d, 1, none⟩ = some (.slice B nq b)) (by kernel_rfl) ⟨HC1.out, HC2.out⟩ (fun hS0 => ?_)
  refine wpAnyH_take (i := 0) (v := ?vc0) rfl (by kernel_rfl) (by kernel_rfl) (by kernel_rfl) (fun _ _ _ h => h) (Or.inl ⟨by rfl, ?hyc0⟩) (by assumption) ?restc0
  case hyc0 => (intro w hSw; (try dsimp only at hSw); go_simp; first | done | (with_reducible rfl))
  try simp only [Act.put, List.getElem_toArray, List.getElem_cons_zero, List.getElem_cons_succ, List.setIfInBounds_toArray, List.set_cons_zero, List.set_cons_succ]
  refine wpAnyH_take (i := 1) (v := ?vc1) rfl (by kernel_rfl) (by kernel_rfl) (by kernel_rfl) (fun _ _ _ h => h) (Or.inl ⟨by rfl, ?hyc1⟩) (by assumption) ?restc1
  case hyc1 => (intro w hSw; (try dsimp only at hSw); go_simp; first | done | (with_reducible rfl))
  try simp only [Act.put, List.getElem_toArray, List.getElem_cons_zero, List.getElem_cons_succ, List.setIfInBounds_toArray, List.set_cons_zero, List.set_cons_succ]
  refine wpAnyH_take (i := 2) (v := ?vc2) rfl (by kernel_rfl) (by kernel_rfl) (by kernel_rfl) (fun _ _ _ h => h) (Or.inl ⟨by rfl, ?hyc2⟩) (by assumption) ?restc2
  case hyc2 => (intro w hSw; (try dsimp only at hSw); go_simp; first | done | (with_reducible rfl))
  try simp only [Act.put, List.getElem_toArray, List.getElem_cons_zero, List.getElem_cons_succ, List.setIfInBounds_toArray, List.set_cons_zero, List.set_cons_succ]
  refine wpAnyH_take (i := 3) (v := ?vc3) rfl (by kernel_rfl) (by kernel_rfl) (by kernel_rfl) (fun _ _ _ h => h) (Or.inl ⟨by rfl, ?hyc3⟩) (by assumption) ?restc3
  case hyc3 => (intro w hSw; (try dsimp only at hSw); go_simp; first | done | (with_reducible rfl))
  try simp only [Act.put, List.getElem_toArray, List.getElem_cons_zero, List.getElem_cons_succ, List.setIfInBounds_toArray, List.set_cons_zero, List.set_cons_succ]
  refine wpAnyH_take (i := 5) (v := ?vc5) rfl (by kernel_rfl) (by kernel_rfl) (by kernel_rfl) (fun _ _ _ h => h) (Or.inl ⟨by rfl, ?hyc5⟩) (by assumption) ?restc5
  case hyc5 => (intro w hSw; (try dsimp only at hSw); go_simp; first | done | (with_reducible rfl))
  try simp only [Act.put, List.getElem_toArray, List.getElem_cons_zero, List.getElem_cons_succ, List.setIfInBounds_toArray, List.set_cons_zero, List.set_cons_succ]
  refine wpAnyH_take (i := 6) (v := ?vc6) rfl (by kernel_rfl) (by kernel_rfl) (by kernel_rfl) (fun _ _ _ h => h) (Or.inl ⟨by rfl, ?hyc6⟩) (by assumption) ?restc6
  case hyc6 => (intro w hSw; (try dsimp only at hSw); go_simp; first | done | (with_reducible rfl))
  try simp only [Act.put, List.getElem_toArray, List.getElem_cons_zero, List.getElem_cons_succ, List.setIfInBounds_toArray, List.set_cons_zero, List.set_cons_succ]
  refine wpAnyH_take (i := 7) (v := ?vc7) rfl (by kernel_rfl) (by kernel_rfl) (by kernel_rfl) (fun _ _ _ h => h) (Or.inl ⟨by rfl, ?hyc7⟩) (by assumption) ?restc7
  case hyc7 => (intro w hSw; (try dsimp only at hSw); go_simp; first | done | (with_reducible rfl))
  try simp only [Act.put, List.getElem_toArray, List.getElem_cons_zero, List.getElem_cons_succ, List.setIfInBounds_toArray, List.set_cons_zero, List.set_cons_succ]
  refine wpAnyH_take (i := 8) (v := ?vc8) rfl (by kernel_rfl) (by kernel_rfl) (by kernel_rfl) (fun _ _ _ h => h) (Or.inl ⟨by rfl, ?hyc8⟩) (by assumption) ?restc8
  case hyc8 => (intro w hSw; (try dsimp only at hSw); go_simp; first | done | (with_reducible rfl))
  try simp only [Act.put, List.getElem_toArray, List.getElem_cons_zero, List.getElem_cons_succ, List.setIfInBounds_toArray, List.set_cons_zero, List.set_cons_succ]
  refine wpAnyH_ready (rs := [4]) (by kernel_rfl) (by simp) ?_
  refine AllReadyH.cons rfl (fun K hK => ?_) AllReadyH.nil
  go_simp
  refine (clone_pages _ np (pcells D.pages) w1.drew HR1.out (by rw [HNP.out]; exact pcells_len D.pages HDK.out.ok.pages) H1.out (hone_page _)).mono ?_
  rintro e w2 ⟨v1, rfl, hown1, hb1d⟩
  have hb1 : Below w1.heap.size w1 w2 := ((Below.refl _ w1).drew).trans hb1d
  obtain ⟨A1, k1, rfl, hk1, hm1⟩ := Row.form (ownsRow_low hown1)
  have HOWN1 := hide hown1
  have HB1 := hide hb1
  have HS1 : Hid (w1.heap.size ≤ w2.heap.size) := hide hb1.size
  have HDK2 := hide (HDK.out.step hb1)
  have HBN2 : Hid (Blk w2 w.heap.size 63 #[.slice A np c, .slice B nq b, .int .i64 D.fuse, .bool D.failed]) := hide ((hb1.block _ (by have := HSZ.out; show _ < w1.heap.size; omega)).trans HBN.out)
  have HR2 : Hid (Row w2 71 129 (.slice B nq b) nq (pendCells D.pend)) := hide (by have := HDK2.out.pend; rwa [← HNQ.out] at this)
  clear hown1 hb1 hb1d
  refine hK.out _ _ ⟨HDK2.out.blk.cell 0, HDK2.out.blk.cell 1⟩ (fun hS1 => ?_)
  clear hK K
  try simp only [Act.put, List.getElem_toArray, List.getElem_cons_zero, List.getElem_cons_succ, List.setIfInBounds_toArray, List.set_cons_zero, List.set_cons_succ]
  refine wpAnyH_ready (rs := [9]) (by kernel_rfl) (by simp) ?_
  refine AllReadyH.cons rfl (fun K hK => ?_) AllReadyH.nil
  go_simp
  refine (clone_pend _ nq (pendCells D.pend) w2 HR2.out (by rw [HNQ.out]; exact pendCells_len D.pend (fun x hx => (HDK.out.ok.pend x hx).2)) H2.out (hone_pend D.pend)).mono ?_
  rintro e w3 ⟨v2, rfl, hown2, hb2⟩
  obtain ⟨A2, k2, rfl, hk2, hm2⟩ := Row.form (ownsRow_low hown2)
  have HOWN2 := hide hown2
  have HB2 := hide hb2
  have HS2 : Hid (w2.heap.size ≤ w3.heap.size) := hide hb2.size
  have HDK3 := hide (HDK2.out.step hb2)
  have HBN3 : Hid (Blk w3 w.heap.size 63 #[.slice A np c, .slice B nq b, .int .i64 D.fuse, .bool D.failed]) := hide ((hb2.block _ (by have := HSZ.out; have := HS1.out; omega)).trans HBN2.out)
  clear hown2 hb2
  refine hK.out _ _ ⟨HDK3.out.blk.cell 0, HDK3.out.blk.cell 1⟩ (fun hS2 => ?_)
  clear hK K
  try simp only [Act.put, List.getElem_toArray, List.getElem_cons_zero, List.getElem_cons_succ, List.setIfInBounds_toArray, List.set_cons_zero, List.set_cons_succ]
  refine wpAnyH_take (i := 10) (v := ?vc10) rfl (by kernel_rfl) (by kernel_rfl) (by kernel_rfl) (fun _ _ _ h => h) (Or.inl ⟨by rfl, ?hyc10⟩) (by assumption) ?restc10
  case hyc10 => (intro w hSw; (try dsimp only at hSw); go_simp; first | done | (with_reducible rfl))
  try simp only [Act.put, List.getElem_toArray, List.getElem_cons_zero, List.getElem_cons_succ, List.setIfInBounds_toArray, List.set_cons_zero, List.set_cons_succ]
  have z0 := HBN3.out.cell 0
  have z1 := HBN3.out.cell 1
  have y0 := HBN3.out.froz 0
  have y1 := HBN3.out.froz 1
  simp only [List.getElem?_toArray, List.getElem?_cons_zero, List.getElem?_cons_succ] at z0 z1
  have HNE : Hid (d ≠ w.heap.size) := hide (by have := HINF.out; omega)
  have HS0 : Hid (∀ v, (w3.setCell ⟨w.heap.size, 0, none⟩ v).cell? ⟨d, 0, none⟩ = some (.slice A np c) ∧ (w3.setCell ⟨w.heap.size, 0, none⟩ v).cell? ⟨d, 1, none⟩ = some (.slice B nq b)) := hide (fun v => by
    have k := (HDK3.out.touch (S := [w.heap.size]) ((Touch.refl [w.heap.size] w3).set (g := w.heap.size) (.inl (by simp)) 0 v) (fun j hj => by have := H.out.lt j hj; simp; omega))
    exact ⟨k.blk.cell 0, k.blk.cell 1⟩)
  refine wpAnyH_ready (rs := [11]) (by kernel_rfl) (by simp) ?_
  refine AllReadyH.cons rfl (fun K hK => ?_) AllReadyH.nil
  go_simp
  refine hK.out _ _ (HS0.out (.slice A1 np k1)) (fun hS3 => ?_)
  clear hK K
  try simp only [Act.put, List.getElem_toArray, List.getElem_cons_zero, List.getElem_cons_succ, List.setIfInBounds_toArray, List.set_cons_zero, List.set_cons_succ]
  refine wpAnyH_take (i := 12) (v := ?vc12) rfl (by kernel_rfl) (by kernel_rfl) (by kernel_rfl) (fun _ _ _ h => h) (Or.inl ⟨by rfl, ?hyc12⟩) (by assumption) ?restc12
  case hyc12 => (intro w hSw; (try dsimp only at hSw); go_simp; first | done | (with_reducible rfl))
  try simp only [Act.put, List.getElem_toArray, List.getElem_cons_zero, List.getElem_cons_succ, List.setIfInBounds_toArray, List.set_cons_zero, List.set_cons_succ]
  have HB4 := hide (HBN3.out.put 0 (.slice A1 np k1))
  have z1' := HB4.out.cell 1
  have y1' := HB4.out.froz 1
  simp at z1'
  refine wpAnyH_ready (rs := [13]) (by kernel_rfl) (by simp) ?_
  refine AllReadyH.cons rfl (fun K hK => ?_) AllReadyH.nil
  go_simp
  have HS4 : Hid (∀ v, ((w3.setCell ⟨w.heap.size, 0, none⟩ (.slice A1 np k1)).setCell ⟨w.heap.size, 1, none⟩ v).cell? ⟨d, 0, none⟩ = some (.slice A np c) ∧ ((w3.setCell ⟨w.heap.size, 0, none⟩ (.slice A1 np k1)).setCell ⟨w.heap.size, 1, none⟩ v).cell? ⟨d, 1, none⟩ = some (.slice B nq b)) := hide (fun v => by
    have k := (HDK3.out.touch (S := [w.heap.size]) (((Touch.refl [w.heap.size] w3).set (g := w.heap.size) (.inl (by simp)) 0 (.slice A1 np k1)).set (g := w.heap.size) (.inl (by simp)) 1 v) (fun j hj => by have := H.out.lt j hj; simp; omega))
    exact ⟨k.blk.cell 0, k.blk.cell 1⟩)
  refine hK.out _ _ (HS4.out (.slice A2 nq k2)) (fun hS4 => ?_)
  clear hK K
  try simp only [Act.put, List.getElem_toArray, List.getElem_cons_zero, List.getElem_cons_succ, List.setIfInBounds_toArray, List.set_cons_zero, List.set_cons_succ]
  refine wpAnyH_done (by kernel_rfl) ?_ _
  clear hS0 hS1 hS2 hS3 hS4 z0 z1 y0 y1 z1' y1'
  go_wp2_with fail
  go_ret
  have hA1 : ∀ j, (Value.slice A1 np k1).ownBlock = some j → w1.heap.size ≤ j ∧ j < w2.heap.size := fun j hj => World.ownsRow.lt HOWN1.out j hj
  have hA2 : ∀ j, (Value.slice A2 nq k2).ownBlock = some j → w2.heap.size ≤ j ∧ j < w3.heap.size := fun j hj => World.ownsRow.lt HOWN2.out j hj
  have k : Touch [w.heap.size] w3 ((w3.setCell ⟨w.heap.size, 0, none⟩ (.slice A1 np k1)).setCell ⟨w.heap.size, 1, none⟩ (.slice A2 nq k2)) := ((Touch.refl [w.heap.size] w3).set (g := w.heap.size) (.inl (by simp)) 0 _).set (g := w.heap.size) (.inl (by simp)) 1 _
  have hs0 := HSZ.out
  have hs1 := HS1.out
  have hs2 := HS2.out
  have r1 : Row w3 64 128 (.slice A1 np k1) np (pcells D.pages) := Row.touch (ownsRow_low HOWN1.out) (Touch.below HB2.out []) (by simp)
  have r1' := Row.touch r1 k (fun j hj => by have := hA1 j hj; simp; omega)
  have r2 := Row.touch (ownsRow_low HOWN2.out) k (fun j hj => by have := hA2 j hj; simp; omega)
  have e1 := HNP.out
  have e2 := HNQ.out
  have hkz := k.size
  refine ⟨w.heap.size, w.heap.size :: ((Value.slice A1 np k1).ownBlock.toList ++ (Value.slice A2 nq k2).ownBlock.toList), rfl, HNE.out.symm, ⟨_, _, HB4.out.put 1 _, by rw [← e1]; exact r1', by rw [← e2]; exact r2, by simp, ?_, ?_, ?_, HDK.out.ok⟩, ?_, ?_⟩
  · intro j hj
    have := hA1 j hj
    exact ⟨by simp [hj], by omega⟩
  · intro j hj
    have := hA2 j hj
    exact ⟨by simp [hj], by omega, fun e => by have := hA1 j e; omega⟩
  · intro j hj
    rcases List.mem_cons.1 hj with rfl | hj
    · omega
    · rcases List.mem_append.1 hj with hj | hj
      · have := hA1 j (Option.mem_toList.1 hj); omega
      · have := hA2 j (Option.mem_toList.1 hj); omega
  · have kk : Below w.heap.size w w3 := (HKW.out.trans (HB1.out.mono (by omega))).trans (HB2.out.mono (by omega))
    exact Below.touch kk k (by simp) (by omega)
  · intro j hj
    rcases List.mem_cons.1 hj with rfl | hj
    · exact Nat.le_refl _
    · rcases List.mem_append.1 hj with hj | hj
      · have := hA1 j (Option.mem_toList.1 hj); omega
      · have := hA2 j (Option.mem_toList.1 hj); omega
end Go.Proofs.Ytlpnichgfhgdmaa
