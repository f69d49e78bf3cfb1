/- SameOutgoing of a list with itself; btoi. -/
import Derived.Test.YtpbgelhjbfckcaaS03
import Derived.Test.YtpbgelhjbfckcaaS11
import Derived.Test.YtpbgelhjbfckcaaS07
namespace Go.Proofs.Ytpbgelhjbfckcaa
open Go.ChangeShapes Go.WideShapes Go.ChangeAt Go.RowKit
set_option linter.unusedVariables false
set_option linter.unusedSimpArgs false

theorem blk_cells {w : World} {g : Nat} {t : TypeId} {cs : List Value} (h : Blk w g t cs.toArray) : ∀ j, w.cell? ⟨g, j, none⟩ = cs[j]? := fun j => by rw [h.cell j, List.getElem?_toArray]
theorem btoi_c (x : Bool) (w : World) : Calls Try.prog 34 #[.bool x] w fun e w' => e = .returned (.int .i64 (if x = true then 1 else 0)) ∧ w = w' := by
  cases x
  · go_enter Try.func34, Try.ntmps34
    go_wp2_with fail
    go_ret
    exact ⟨rfl, rfl⟩
  · go_enter Try.func34, Try.ntmps34
    go_wp2_with fail
    go_ret
    exact ⟨rfl, rfl⟩
set_option maxRecDepth 100000 in
theorem sameOut_nil (w : World) : Calls Try.prog 35 #[.slice none 0 0, .slice none 0 0] w (Yes w) := by
  go_enter Try.func35, Try.ntmps35
  go_wp2_with fail
  go_loop [5] (fun v5 => v5 = .int .i64 0) (fun _ => 0)
  case atStart => rfl
  case round =>
    subst hrel
    go_wp2_with fail
    go_ret
    exact ⟨rfl, Below.refl _ _⟩
set_option maxRecDepth 100000 in
set_option maxHeartbeats 1000000 in
theorem sameOut_one (T : Int) (ms : List Value) (hs : ∀ X, Calls Try.prog 17 #[.agg ms.toArray, .agg ms.toArray] X (Yes X)) (hl : ms.length = 47) (b c : Nat) (w : World) (hb : Blk w b 59 (.int .i64 T :: ms).toArray) (hc : Blk w c 59 (.int .i64 T :: ms).toArray) :
    Calls Try.prog 35 #[.slice (some ⟨b, 0, none⟩) 1 1, .slice (some ⟨c, 0, none⟩) 1 1] w (Yes w) := by
  have HB := hide hb
  have HC := hide hc
  have HSA := hide hs
  clear hb hc hs
  go_enter Try.func35, Try.ntmps35
  go_wp2_with fail
  go_loopw [5] (fun v5 wr => (∃ k : Nat, v5 = .int .i64 k ∧ k ≤ 1) ∧ Below w.heap.size w wr) (fun v5 _ => 1 - (intOf v5).toNat)
  case atStart => exact ⟨⟨0, rfl, by omega⟩, Below.refl _ _⟩
  case round =>
    obtain ⟨⟨k, rfl, hk⟩, hbw⟩ := hrel
    have HW := hide hbw
    clear hbw
    rcases Nat.eq_zero_or_pos k with rfl | hk1
    · go_wp2_with fail
      refine wp_region_held_drew (S := fun W => (∀ j, W.cell? ⟨b, j, none⟩ = (.int .i64 T :: ms : List Value)[j]?) ∧ (∀ j, W.cell? ⟨c, j, none⟩ = (.int .i64 T :: ms : List Value)[j]?)) (by kernel_rfl) (⟨blk_cells (HB.out.step HW.out.drew), blk_cells (HC.out.step HW.out.drew)⟩) (fun hS0 => ?_)
      refine wpAnyH_take (i := 0) (v := ?vs0) rfl (by kernel_rfl) (by kernel_rfl) (by kernel_rfl) (fun _ _ _ h => h) (Or.inl ⟨by rfl, ?hys0⟩) (by assumption) ?rests0
      case hys0 => (intro w hSw; (try dsimp only at hSw); go_simp; first | done | (with_reducible rfl))
      try simp only [Act.put, List.getElem_toArray, List.getElem_cons_zero, List.getElem_cons_succ, List.setIfInBounds_toArray, List.set_cons_zero, List.set_cons_succ]
      refine wpAnyH_take (i := 1) (v := ?vs1) rfl (by kernel_rfl) (by kernel_rfl) (by kernel_rfl) (fun _ _ _ h => h) (Or.inl ⟨by rfl, ?hys1⟩) (by assumption) ?rests1
      case hys1 => (intro w hSw; (try dsimp only at hSw); go_simp; first | done | (with_reducible rfl))
      try simp only [Act.put, List.getElem_toArray, List.getElem_cons_zero, List.getElem_cons_succ, List.setIfInBounds_toArray, List.set_cons_zero, List.set_cons_succ]
      refine wpAnyH_take (i := 2) (v := ?vs2) rfl (by kernel_rfl) (by kernel_rfl) (by kernel_rfl) (fun _ _ _ h => h) (Or.inl ⟨by rfl, ?hys2⟩) (by assumption) ?rests2
      case hys2 => (intro w hSw; (try dsimp only at hSw); go_simp; first | done | (with_reducible rfl))
      try simp only [Act.put, List.getElem_toArray, List.getElem_cons_zero, List.getElem_cons_succ, List.setIfInBounds_toArray, List.set_cons_zero, List.set_cons_succ]
      refine wpAnyH_take (i := 3) (v := ?vs3) rfl (by kernel_rfl) (by kernel_rfl) (by kernel_rfl) (fun _ _ _ h => h) (Or.inl ⟨by rfl, ?hys3⟩) (by assumption) ?rests3
      case hys3 => (intro w hSw; (try dsimp only at hSw); go_simp; first | done | (with_reducible rfl))
      try simp only [Act.put, List.getElem_toArray, List.getElem_cons_zero, List.getElem_cons_succ, List.setIfInBounds_toArray, List.set_cons_zero, List.set_cons_succ]
      refine wpAnyH_take (i := 4) (v := ?vs4) rfl (by kernel_rfl) (by kernel_rfl) (by kernel_rfl) (fun _ _ _ h => h) (Or.inl ⟨by rfl, ?hys4⟩) (by assumption) ?rests4
      case hys4 => (intro w hSw; (try dsimp only at hSw); go_simp; first | done | (with_reducible rfl))
      try simp only [Act.put, List.getElem_toArray, List.getElem_cons_zero, List.getElem_cons_succ, List.setIfInBounds_toArray, List.set_cons_zero, List.set_cons_succ]
      refine wpAnyH_take (i := 5) (v := ?vs5) rfl (by kernel_rfl) (by kernel_rfl) (by kernel_rfl) (fun _ _ _ h => h) (Or.inl ⟨by rfl, ?hys5⟩) (by assumption) ?rests5
      case hys5 => (intro w hSw; (try dsimp only at hSw); go_simp; first | done | (with_reducible rfl))
      try simp only [Act.put, List.getElem_toArray, List.getElem_cons_zero, List.getElem_cons_succ, List.setIfInBounds_toArray, List.set_cons_zero, List.set_cons_succ]
      refine wpAnyH_take (i := 6) (v := ?vs6) rfl (by kernel_rfl) (by kernel_rfl) (by kernel_rfl) (fun _ _ _ h => h) (Or.inl ⟨by rfl, ?hys6⟩) (by assumption) ?rests6
      case hys6 => (intro w hSw; (try dsimp only at hSw); go_simp; first | done | (with_reducible rfl))
      try simp only [Act.put, List.getElem_toArray, List.getElem_cons_zero, List.getElem_cons_succ, List.setIfInBounds_toArray, List.set_cons_zero, List.set_cons_succ]
      refine wpAnyH_take (i := 7) (v := ?vs7) rfl (by kernel_rfl) (by kernel_rfl) (by kernel_rfl) (fun _ _ _ h => h) (Or.inl ⟨by rfl, ?hys7⟩) (by assumption) ?rests7
      case hys7 => (intro w hSw; (try dsimp only at hSw); go_simp; first | done | (with_reducible rfl))
      try simp only [Act.put, List.getElem_toArray, List.getElem_cons_zero, List.getElem_cons_succ, List.setIfInBounds_toArray, List.set_cons_zero, List.set_cons_succ]
      refine wpAnyH_take (i := 8) (v := ?vs8) rfl (by kernel_rfl) (by kernel_rfl) (by kernel_rfl) (fun _ _ _ h => h) (Or.inl ⟨by rfl, ?hys8⟩) (by assumption) ?rests8
      case hys8 => (intro w hSw; (try dsimp only at hSw); go_simp; first | done | (with_reducible rfl))
      try simp only [Act.put, List.getElem_toArray, List.getElem_cons_zero, List.getElem_cons_succ, List.setIfInBounds_toArray, List.set_cons_zero, List.set_cons_succ]
      refine wpAnyH_take (i := 9) (v := ?vs9) rfl (by kernel_rfl) (by kernel_rfl) (by kernel_rfl) (fun _ _ _ h => h) (Or.inl ⟨by rfl, ?hys9⟩) (by assumption) ?rests9
      case hys9 => (intro w hSw; (try dsimp only at hSw); go_simp; first | done | (with_reducible rfl))
      try simp only [Act.put, List.getElem_toArray, List.getElem_cons_zero, List.getElem_cons_succ, List.setIfInBounds_toArray, List.set_cons_zero, List.set_cons_succ]
      refine wpAnyH_take (i := 10) (v := ?vs10) rfl (by kernel_rfl) (by kernel_rfl) (by kernel_rfl) (fun _ _ _ h => h) (Or.inl ⟨by rfl, ?hys10⟩) (by assumption) ?rests10
      case hys10 => (intro w hSw; (try dsimp only at hSw); go_simp; first | done | (with_reducible rfl))
      try simp only [Act.put, List.getElem_toArray, List.getElem_cons_zero, List.getElem_cons_succ, List.setIfInBounds_toArray, List.set_cons_zero, List.set_cons_succ]
      refine wpAnyH_take (i := 11) (v := ?vs11) rfl (by kernel_rfl) (by kernel_rfl) (by kernel_rfl) (fun _ _ _ h => h) (Or.inl ⟨by rfl, ?hys11⟩) (by assumption) ?rests11
      case hys11 => (intro w hSw; (try dsimp only at hSw); go_simp; first | done | (with_reducible rfl))
      try simp only [Act.put, List.getElem_toArray, List.getElem_cons_zero, List.getElem_cons_succ, List.setIfInBounds_toArray, List.set_cons_zero, List.set_cons_succ]
      refine wpAnyH_take (i := 12) (v := ?vs12) rfl (by kernel_rfl) (by kernel_rfl) (by kernel_rfl) (fun _ _ _ h => h) (Or.inl ⟨by rfl, ?hys12⟩) (by assumption) ?rests12
      case hys12 => (intro w hSw; (try dsimp only at hSw); go_simp; first | done | (with_reducible rfl))
      try simp only [Act.put, List.getElem_toArray, List.getElem_cons_zero, List.getElem_cons_succ, List.setIfInBounds_toArray, List.set_cons_zero, List.set_cons_succ]
      refine wpAnyH_take (i := 13) (v := ?vs13) rfl (by kernel_rfl) (by kernel_rfl) (by kernel_rfl) (fun _ _ _ h => h) (Or.inl ⟨by rfl, ?hys13⟩) (by assumption) ?rests13
      case hys13 => (intro w hSw; (try dsimp only at hSw); go_simp; first | done | (with_reducible rfl))
      try simp only [Act.put, List.getElem_toArray, List.getElem_cons_zero, List.getElem_cons_succ, List.setIfInBounds_toArray, List.set_cons_zero, List.set_cons_succ]
      refine wpAnyH_take (i := 14) (v := ?vs14) rfl (by kernel_rfl) (by kernel_rfl) (by kernel_rfl) (fun _ _ _ h => h) (Or.inl ⟨by rfl, ?hys14⟩) (by assumption) ?rests14
      case hys14 => (intro w hSw; (try dsimp only at hSw); go_simp; first | done | (with_reducible rfl))
      try simp only [Act.put, List.getElem_toArray, List.getElem_cons_zero, List.getElem_cons_succ, List.setIfInBounds_toArray, List.set_cons_zero, List.set_cons_succ]
      refine wpAnyH_take (i := 15) (v := ?vs15) rfl (by kernel_rfl) (by kernel_rfl) (by kernel_rfl) (fun _ _ _ h => h) (Or.inl ⟨by rfl, ?hys15⟩) (by assumption) ?rests15
      case hys15 => (intro w hSw; (try dsimp only at hSw); go_simp; first | done | (with_reducible rfl))
      try simp only [Act.put, List.getElem_toArray, List.getElem_cons_zero, List.getElem_cons_succ, List.setIfInBounds_toArray, List.set_cons_zero, List.set_cons_succ]
      refine wpAnyH_take (i := 16) (v := .agg ms.toArray) rfl (by kernel_rfl) (by kernel_rfl) (by kernel_rfl) (fun _ _ _ h => h) (yieldsIf_load rfl 41 (.tmp 32) rfl b 1 47 59 (.int .i64 T :: ms) ms _ (fun w hw => hw.1) (by show ms.take 47 = ms; rw [List.take_of_length_le (by omega)]) rfl Try.underlying41 rfl (msg_size hl)) (by assumption) ?_
      try simp only [Act.put, List.getElem_toArray, List.getElem_cons_zero, List.getElem_cons_succ, List.setIfInBounds_toArray, List.set_cons_zero, List.set_cons_succ]
      refine wpAnyH_take (i := 17) (v := ?vs17) rfl (by kernel_rfl) (by kernel_rfl) (by kernel_rfl) (fun _ _ _ h => h) (Or.inl ⟨by rfl, ?hys17⟩) (by assumption) ?rests17
      case hys17 => (intro w hSw; (try dsimp only at hSw); go_simp; first | done | (with_reducible rfl))
      try simp only [Act.put, List.getElem_toArray, List.getElem_cons_zero, List.getElem_cons_succ, List.setIfInBounds_toArray, List.set_cons_zero, List.set_cons_succ]
      refine wpAnyH_take (i := 18) (v := ?vs18) rfl (by kernel_rfl) (by kernel_rfl) (by kernel_rfl) (fun _ _ _ h => h) (Or.inl ⟨by rfl, ?hys18⟩) (by assumption) ?rests18
      case hys18 => (intro w hSw; (try dsimp only at hSw); go_simp; first | done | (with_reducible rfl))
      try simp only [Act.put, List.getElem_toArray, List.getElem_cons_zero, List.getElem_cons_succ, List.setIfInBounds_toArray, List.set_cons_zero, List.set_cons_succ]
      refine wpAnyH_take (i := 19) (v := ?vs19) rfl (by kernel_rfl) (by kernel_rfl) (by kernel_rfl) (fun _ _ _ h => h) (Or.inl ⟨by rfl, ?hys19⟩) (by assumption) ?rests19
      case hys19 => (intro w hSw; (try dsimp only at hSw); go_simp; first | done | (with_reducible rfl))
      try simp only [Act.put, List.getElem_toArray, List.getElem_cons_zero, List.getElem_cons_succ, List.setIfInBounds_toArray, List.set_cons_zero, List.set_cons_succ]
      refine wpAnyH_take (i := 20) (v := ?vs20) rfl (by kernel_rfl) (by kernel_rfl) (by kernel_rfl) (fun _ _ _ h => h) (Or.inl ⟨by rfl, ?hys20⟩) (by assumption) ?rests20
      case hys20 => (intro w hSw; (try dsimp only at hSw); go_simp; first | done | (with_reducible rfl))
      try simp only [Act.put, List.getElem_toArray, List.getElem_cons_zero, List.getElem_cons_succ, List.setIfInBounds_toArray, List.set_cons_zero, List.set_cons_succ]
      refine wpAnyH_take (i := 21) (v := .agg ms.toArray) rfl (by kernel_rfl) (by kernel_rfl) (by kernel_rfl) (fun _ _ _ h => h) (yieldsIf_load rfl 41 (.tmp 37) rfl c 1 47 59 (.int .i64 T :: ms) ms _ (fun w hw => hw.2) (by show ms.take 47 = ms; rw [List.take_of_length_le (by omega)]) rfl Try.underlying41 rfl (msg_size hl)) (by assumption) ?_
      try simp only [Act.put, List.getElem_toArray, List.getElem_cons_zero, List.getElem_cons_succ, List.setIfInBounds_toArray, List.set_cons_zero, List.set_cons_succ]
      refine wpAnyH_ready (rs := [22]) (by kernel_rfl) (by simp) ?_
      refine AllReadyH.cons rfl (fun K hK => ?_) AllReadyH.nil
      go_simp
      refine (HSA.out _).mono ?_
      rintro e wS ⟨rfl, hbs⟩
      have HW2 := hide (HW.out.drew.trans (hbs.mono HW.out.drew.size))
      clear hbs
      refine hK.out _ _ (⟨blk_cells (HB.out.step HW2.out), blk_cells (HC.out.step HW2.out)⟩) (fun hS22 => ?_)
      clear hK K
      try simp only [Act.put, List.getElem_toArray, List.getElem_cons_zero, List.getElem_cons_succ, List.setIfInBounds_toArray, List.set_cons_zero, List.set_cons_succ]
      refine wpAnyH_take (i := 23) (v := ?vs23) rfl (by kernel_rfl) (by kernel_rfl) (by kernel_rfl) (fun _ _ _ h => h) (Or.inl ⟨by rfl, ?hys23⟩) (by assumption) ?rests23
      case hys23 => (intro w hSw; (try dsimp only at hSw); go_simp; first | done | (with_reducible rfl))
      try simp only [Act.put, List.getElem_toArray, List.getElem_cons_zero, List.getElem_cons_succ, List.setIfInBounds_toArray, List.set_cons_zero, List.set_cons_succ]
      refine wpAnyH_take (i := 24) (v := ?vs24) rfl (by kernel_rfl) (by kernel_rfl) (by kernel_rfl) (fun _ _ _ h => h) (Or.inl ⟨by rfl, ?hys24⟩) (by assumption) ?rests24
      case hys24 => (intro w hSw; (try dsimp only at hSw); go_simp; first | done | (with_reducible rfl))
      try simp only [Act.put, List.getElem_toArray, List.getElem_cons_zero, List.getElem_cons_succ, List.setIfInBounds_toArray, List.set_cons_zero, List.set_cons_succ]
      refine wpAnyH_done (by kernel_rfl) ?_ _
      clear hS0
      go_wp2_with fail
      go_roundw
      case rel => exact ⟨⟨1, by go_num, by omega⟩, HW2.out⟩
      case measure => simp [intOf]
    · obtain rfl : k = 1 := by omega
      go_wp2_with fail
      go_ret
      exact ⟨rfl, HW.out⟩
end Go.Proofs.Ytpbgelhjbfckcaa
/- The law's operations in memory; few. -/
namespace Go.Proofs.Ytpbgelhjbfckcaa
open Go.ChangeShapes Go.WideShapes Go.ChangeAt Go.RowKit
set_option linter.unusedVariables false
set_option linter.unusedSimpArgs false

/-- An operation as it lies in memory. -/
structure OpV where
  kind : Int
  group : Int
  frm : Int
  body : ByteArray
  value : Int
  msg : MV
  fit : Bool
def OpV.cells (x : OpV) : List Value := .int .i64 x.kind :: .int .i64 x.group :: .int .i64 x.frm :: .string x.body :: .int .i64 x.value :: (x.msg.cells ++ [.bool x.fit])
structure OpV.Ok (x : OpV) : Prop where
  msg : x.msg.Ok
  body : x.body.size ≤ maxLen
  mbody : x.msg.body.size ≤ maxLen
  machines : ∃ A n c, x.msg.rest[26]? = some (.slice A n c) ∧ n ≤ maxLen
  entries : ∃ A n c, x.msg.rest[36]? = some (.slice A n c) ∧ n ≤ maxLen
  data : ∃ d : ByteArray, x.msg.rest[38]? = some (.string d) ∧ d.size ≤ maxLen
theorem OpV.Ok.size {x : OpV} (h : x.Ok) : x.cells.length = 53 := by simp [OpV.cells, h.msg.size]
theorem OpV.Ok.ones {x : OpV} (h : x.Ok) : x.cells.toArray.all (·.oneCell') = true := by
  have := h.msg.ones
  simp only [List.all_toArray, List.all_eq_true] at this ⊢
  intro v hv
  simp only [OpV.cells, List.mem_cons, List.mem_append, List.not_mem_nil, or_false] at hv
  rcases hv with rfl | rfl | rfl | rfl | rfl | hv | rfl
  · rfl
  · rfl
  · rfl
  · rfl
  · rfl
  · exact this v hv
  · rfl
/-- The slice v holds the operations l. -/
def OpsIn (w : World) (v : Value) (l : List OpV) : Prop :=
  ∃ A c, v = .slice A l.length c ∧ l.length ≤ c ∧ c ≤ maxLen ∧ (∀ x ∈ l, x.Ok) ∧
    (0 < l.length → ∃ g o, A = some ⟨g, o, none⟩ ∧ g < w.heap.size ∧ ∀ i (h : i < l.length), w.rangeAt g (o + i * 53) l[i].cells)
theorem rangeAt_step {w w' : World} {g o : Nat} {cs : List Value} (h : w.rangeAt g o cs) (hg : g < w.heap.size) (k : Below w.heap.size w w') : w'.rangeAt g o cs := fun j v hv => (k.cell (p := ⟨g, o + j, none⟩) hg).trans (h j v hv)
theorem OpsIn.step {w w' : World} {v : Value} {l : List OpV} (h : OpsIn w v l) (k : Below w.heap.size w w') : OpsIn w' v l := by
  obtain ⟨A, c, e, h1, h2, h3, h4⟩ := h
  refine ⟨A, c, e, h1, h2, h3, fun h0 => ?_⟩
  obtain ⟨g, o, eA, hg, hc⟩ := h4 h0
  exact ⟨g, o, eA, Nat.lt_of_lt_of_le hg k.size, fun i hi => rangeAt_step (hc i hi) hg k⟩
theorem OpsIn.form {w : World} {v : Value} {l : List OpV} (h : OpsIn w v l) : ∃ A m c, v = .slice A m c ∧ Hid (m = l.length) ∧ m ≤ c ∧ c ≤ 9223372036854775807 := by
  obtain ⟨A, c, e, h1, h2, _⟩ := h; exact ⟨A, _, c, e, rfl, h1, by unfold maxLen at h2; omega⟩
theorem OpsIn.at_ {w : World} {A : Option Addr} {m c : Nat} {l : List OpV} (h : OpsIn w (.slice A m c) l) (i : Nat) (hi : i < l.length) :
    ∃ g o, A = some ⟨g, o, none⟩ ∧ g < w.heap.size ∧ (l[i]).Ok ∧ w.rangeAt g (o + i * 53) l[i].cells := by
  obtain ⟨A', c', e, h1, h2, h3, h4⟩ := h
  obtain ⟨rfl, rfl, rfl⟩ : A = A' ∧ m = l.length ∧ c = c' := by injection e with e1 e2 e3; exact ⟨e1, e2, e3⟩
  obtain ⟨g, o, rfl, hg, hc⟩ := h4 (by omega)
  exact ⟨g, o, rfl, hg, h3 _ (List.getElem_mem hi), hc i hi⟩
theorem zop_info : ∃ z : List Value, z.length = 53 ∧ (Try.prog.info? 43).map (fun i => (i.zero, i.size)) = some (some (.agg z.toArray), 53) :=
  ⟨[zi, zi, zi, zs, zi] ++ zmsg ++ [zb0], rfl, by kernel_rfl⟩
theorem size_op {cs : List Value} (h : cs.length = 53) : (Try.prog.info? 43).map (·.size) = some cs.toArray.size := by
  rw [List.size_toArray, h]; kernel_rfl
theorem OpV.Ok.cells_at {w : World} {g : Nat} {x : OpV} (h : x.Ok) (hb : Blk w g 43 x.cells.toArray) {A : Option Addr} {n c : Nat} {B : Option Addr} {m b : Nat} {d : ByteArray}
    (h1 : x.msg.rest[26]? = some (.slice A n c)) (h2 : x.msg.rest[36]? = some (.slice B m b)) (h3 : x.msg.rest[38]? = some (.string d)) :
    w.cell? ⟨g, 3, none⟩ = some (.string x.body) ∧ w.cell? ⟨g, 10, none⟩ = some (.string x.msg.body) ∧ w.cell? ⟨g, 38, none⟩ = some (.slice A n c) ∧ w.cell? ⟨g, 48, none⟩ = some (.slice B m b) ∧ w.cell? ⟨g, 50, none⟩ = some (.string d) := by
  have hl := h.msg.len
  refine ⟨hb.cell 3, hb.cell 10, ?_, ?_, ?_⟩
  · rw [hb.cell 38]
    simp only [OpV.cells, MV.cells, List.getElem?_toArray, List.getElem?_cons_succ, List.cons_append]
    rw [List.getElem?_append_left (by omega)]; exact h1
  · rw [hb.cell 48]
    simp only [OpV.cells, MV.cells, List.getElem?_toArray, List.getElem?_cons_succ, List.cons_append]
    rw [List.getElem?_append_left (by omega)]; exact h2
  · rw [hb.cell 50]
    simp only [OpV.cells, MV.cells, List.getElem?_toArray, List.getElem?_cons_succ, List.cons_append]
    rw [List.getElem?_append_left (by omega)]; exact h3
/-- few's answer: true only if there are few. -/
def FewR (w : World) (l : List OpV) (most : Int) (e : Ending) (w' : World) : Prop := ∃ x : Bool, e = .returned (.bool x) ∧ (x = true → (l.length : Int) ≤ most) ∧ Below w.heap.size w w'
set_option maxRecDepth 100000 in
set_option maxHeartbeats 8000000 in
theorem few_c (v : Value) (l : List OpV) (most : Int) (w : World) (h : OpsIn w v l) :
    Calls Try.prog 11 #[v, .int .i64 most] w (FewR w l most) := by
  obtain ⟨A, n, c, rfl, hn, hnc, hcm⟩ := h.form
  obtain ⟨zo, hzl, hzi⟩ := zop_info
  have HZI : Hid ((Try.prog.info? 43).map (·.zero) = some (some (.agg zo.toArray))) := hide (by
    have h := congrArg (Option.map Prod.fst) hzi
    rw [Option.map_map] at h
    exact h)
  have H := hide h
  clear h hzi
  go_enter Try.func11, Try.ntmps11
  go_wp2_with fail
  go_loopw [9] (fun v9 wr => (∃ k : Nat, v9 = .int .i64 k ∧ k ≤ n) ∧ Below w.heap.size w wr) (fun v9 _ => n - (intOf v9).toNat)
  case atStart => exact ⟨⟨0, rfl, Nat.zero_le _⟩, Below.refl _ _⟩
  case round =>
    obtain ⟨⟨k, rfl, hk⟩, hb⟩ := hrel
    have HB := hide hb
    by_cases hlt : k < n
    · have hkl : k < l.length := by rw [← hn.out]; exact hlt
      obtain ⟨g, o, rfl, hg, hok, hc⟩ := H.out.at_ k hkl
      have HRA := hide (rangeAt_step hc hg hb)
      have HOK := hide hok
      have hki : (k : Int) < (n : Int) := by omega
      have HLT := hide hlt
      obtain ⟨xa, n1, c1, m1, hn1⟩ := hok.machines
      obtain ⟨ya, n2, c2, m2, hn2⟩ := hok.entries
      obtain ⟨dt, m3, hn3⟩ := hok.data
      have HCA := hide (fun (X : World) (q : Nat) (hX : Blk X q 43 l[k].cells.toArray) => hok.cells_at hX m1 m2 m3)
      have hs1 := hok.body
      have hs2 := hok.mbody
      unfold maxLen at hs1 hs2 hn1 hn2 hn3
      generalize l[k] = x at *
      have HSI : Hid ((Try.prog.info? 43).map (·.size) = some x.cells.length) := hide (by rw [HOK.out.size]; kernel_rfl)
      have HSJ : Hid ((Try.prog.info? 43).map (·.size) = some x.cells.toArray.size) := hide (size_op HOK.out.size)
      have HSK : Hid (x.cells.toArray.size = zo.toArray.size) := hide (by rw [List.size_toArray, List.size_toArray, HOK.out.size, hzl])
      have HSO := hide HOK.out.ones
      clear hc hok hb hlt hkl hg m1 m2 m3
      have hcase : (decide (5000 < (x.body.size : Int)) = true) ∨ (decide (5000 < (x.body.size : Int)) = false ∧ decide (5000 < (x.msg.body.size : Int)) = true) ∨ (decide (5000 < (x.body.size : Int)) = false ∧ decide (5000 < (x.msg.body.size : Int)) = false ∧ decide (20 < (n1 : Int)) = true) ∨ (decide (5000 < (x.body.size : Int)) = false ∧ decide (5000 < (x.msg.body.size : Int)) = false ∧ decide (20 < (n1 : Int)) = false ∧ decide (5 < (n2 : Int)) = true) ∨ (decide (5000 < (x.body.size : Int)) = false ∧ decide (5000 < (x.msg.body.size : Int)) = false ∧ decide (20 < (n1 : Int)) = false ∧ decide (5 < (n2 : Int)) = false ∧ decide (1000 < (dt.size : Int)) = true) ∨ (decide (5000 < (x.body.size : Int)) = false ∧ decide (5000 < (x.msg.body.size : Int)) = false ∧ decide (20 < (n1 : Int)) = false ∧ decide (5 < (n2 : Int)) = false ∧ decide (1000 < (dt.size : Int)) = false) := by
        cases decide (5000 < (x.body.size : Int)) <;> cases decide (5000 < (x.msg.body.size : Int)) <;> cases decide (20 < (n1 : Int)) <;> cases decide (5 < (n2 : Int)) <;> cases decide (1000 < (dt.size : Int)) <;> simp
      rcases hcase with q1 | ⟨q1, q2⟩ | ⟨q1, q2, q3⟩ | ⟨q1, q2, q3, q4⟩ | ⟨q1, q2, q3, q4, q5⟩ | ⟨q1, q2, q3, q4, q5⟩
      · go_wp2_with (first
          | (refine wpList_load_mid rfl 43 (.tmp 11) rfl g (o + k * 53) rfl x.cells _ HRA.out Try.underlying43 rfl HSI.out ?_)
          | (refine wpList_alloc_blk rfl 43 rfl zo.toArray HZI.out ?_; intro W1 hx1 hb1 hs1; have HX1 := hide hx1; have HB1 := hide hb1; clear hx1 hb1 hs1)
          | (refine wpList_store_blk rfl 43 (.tmp 6) _ rfl wr.heap.size 43 zo.toArray x.cells.toArray rfl rfl HX1.out HSK.out HSJ.out HSO.out ?_; intro W2 hx2 ht2 hs2; have HB2 := hide (HB.out.trans ((Below.touch HB1.out ht2 (by simp) HB1.out.size).mono HB.out.size)); obtain ⟨z1, z2, z3, z4, z5⟩ := HCA.out _ _ hx2; clear hx2 ht2 hs2; refine Hid.out ?_))
        refine hide ?_
        clear HX1 HB1 HCA
        go_wp2_with fail
        go_ret
        exact ⟨false, rfl, (fun h => by cases h), HB2.out⟩
      · go_wp2_with (first
          | (refine wpList_load_mid rfl 43 (.tmp 11) rfl g (o + k * 53) rfl x.cells _ HRA.out Try.underlying43 rfl HSI.out ?_)
          | (refine wpList_alloc_blk rfl 43 rfl zo.toArray HZI.out ?_; intro W1 hx1 hb1 hs1; have HX1 := hide hx1; have HB1 := hide hb1; clear hx1 hb1 hs1)
          | (refine wpList_store_blk rfl 43 (.tmp 6) _ rfl wr.heap.size 43 zo.toArray x.cells.toArray rfl rfl HX1.out HSK.out HSJ.out HSO.out ?_; intro W2 hx2 ht2 hs2; have HB2 := hide (HB.out.trans ((Below.touch HB1.out ht2 (by simp) HB1.out.size).mono HB.out.size)); obtain ⟨z1, z2, z3, z4, z5⟩ := HCA.out _ _ hx2; clear hx2 ht2 hs2; refine Hid.out ?_))
        refine hide ?_
        clear HX1 HB1 HCA
        go_wp2_with fail
        go_ret
        exact ⟨false, rfl, (fun h => by cases h), HB2.out⟩
      · go_wp2_with (first
          | (refine wpList_load_mid rfl 43 (.tmp 11) rfl g (o + k * 53) rfl x.cells _ HRA.out Try.underlying43 rfl HSI.out ?_)
          | (refine wpList_alloc_blk rfl 43 rfl zo.toArray HZI.out ?_; intro W1 hx1 hb1 hs1; have HX1 := hide hx1; have HB1 := hide hb1; clear hx1 hb1 hs1)
          | (refine wpList_store_blk rfl 43 (.tmp 6) _ rfl wr.heap.size 43 zo.toArray x.cells.toArray rfl rfl HX1.out HSK.out HSJ.out HSO.out ?_; intro W2 hx2 ht2 hs2; have HB2 := hide (HB.out.trans ((Below.touch HB1.out ht2 (by simp) HB1.out.size).mono HB.out.size)); obtain ⟨z1, z2, z3, z4, z5⟩ := HCA.out _ _ hx2; clear hx2 ht2 hs2; refine Hid.out ?_))
        refine hide ?_
        clear HX1 HB1 HCA
        go_wp2_with fail
        go_ret
        exact ⟨false, rfl, (fun h => by cases h), HB2.out⟩
      · go_wp2_with (first
          | (refine wpList_load_mid rfl 43 (.tmp 11) rfl g (o + k * 53) rfl x.cells _ HRA.out Try.underlying43 rfl HSI.out ?_)
          | (refine wpList_alloc_blk rfl 43 rfl zo.toArray HZI.out ?_; intro W1 hx1 hb1 hs1; have HX1 := hide hx1; have HB1 := hide hb1; clear hx1 hb1 hs1)
          | (refine wpList_store_blk rfl 43 (.tmp 6) _ rfl wr.heap.size 43 zo.toArray x.cells.toArray rfl rfl HX1.out HSK.out HSJ.out HSO.out ?_; intro W2 hx2 ht2 hs2; have HB2 := hide (HB.out.trans ((Below.touch HB1.out ht2 (by simp) HB1.out.size).mono HB.out.size)); obtain ⟨z1, z2, z3, z4, z5⟩ := HCA.out _ _ hx2; clear hx2 ht2 hs2; refine Hid.out ?_))
        refine hide ?_
        clear HX1 HB1 HCA
        go_wp2_with fail
        go_ret
        exact ⟨false, rfl, (fun h => by cases h), HB2.out⟩
      · go_wp2_with (first
          | (refine wpList_load_mid rfl 43 (.tmp 11) rfl g (o + k * 53) rfl x.cells _ HRA.out Try.underlying43 rfl HSI.out ?_)
          | (refine wpList_alloc_blk rfl 43 rfl zo.toArray HZI.out ?_; intro W1 hx1 hb1 hs1; have HX1 := hide hx1; have HB1 := hide hb1; clear hx1 hb1 hs1)
          | (refine wpList_store_blk rfl 43 (.tmp 6) _ rfl wr.heap.size 43 zo.toArray x.cells.toArray rfl rfl HX1.out HSK.out HSJ.out HSO.out ?_; intro W2 hx2 ht2 hs2; have HB2 := hide (HB.out.trans ((Below.touch HB1.out ht2 (by simp) HB1.out.size).mono HB.out.size)); obtain ⟨z1, z2, z3, z4, z5⟩ := HCA.out _ _ hx2; clear hx2 ht2 hs2; refine Hid.out ?_))
        refine hide ?_
        clear HX1 HB1 HCA
        go_wp2_with fail
        go_ret
        exact ⟨false, rfl, (fun h => by cases h), HB2.out⟩
      · go_wp2_with (first
          | (refine wpList_load_mid rfl 43 (.tmp 11) rfl g (o + k * 53) rfl x.cells _ HRA.out Try.underlying43 rfl HSI.out ?_)
          | (refine wpList_alloc_blk rfl 43 rfl zo.toArray HZI.out ?_; intro W1 hx1 hb1 hs1; have HX1 := hide hx1; have HB1 := hide hb1; clear hx1 hb1 hs1)
          | (refine wpList_store_blk rfl 43 (.tmp 6) _ rfl wr.heap.size 43 zo.toArray x.cells.toArray rfl rfl HX1.out HSK.out HSJ.out HSO.out ?_; intro W2 hx2 ht2 hs2; have HB2 := hide (HB.out.trans ((Below.touch HB1.out ht2 (by simp) HB1.out.size).mono HB.out.size)); obtain ⟨z1, z2, z3, z4, z5⟩ := HCA.out _ _ hx2; clear hx2 ht2 hs2; refine Hid.out ?_))
        refine hide ?_
        clear HX1 HB1 HCA
        go_wp2_with fail
        go_roundw
        case rel => exact ⟨⟨k + 1, by go_num, HLT.out⟩, HB2.out⟩
        case measure => have := HLT.out; simp [intOf]; omega
    · obtain rfl : k = n := by omega
      have HB := hide hb
      clear hlt hb
      go_wp2_with fail
      go_ret
      exact ⟨_, rfl, fun h => by rw [← hn.out]; simpa using h, HB.out⟩
end Go.Proofs.Ytpbgelhjbfckcaa
/- reply: the message of an operation. -/
namespace Go.Proofs.Ytpbgelhjbfckcaa
open Go.ChangeShapes Go.WideShapes Go.ChangeAt Go.RowKit
set_option linter.unusedVariables false
set_option linter.unusedSimpArgs false

/-- The message of an operation. -/
def repM (x : OpV) (n : Int) : MV := if x.fit = true ∧ x.msg.number = 0 then { x.msg with number := n } else x.msg
theorem repM_ok {x : OpV} (h : x.Ok) (n : Int) : (repM x n).Ok := by
  unfold repM
  split
  · exact ⟨h.msg.len, h.msg.one, h.msg.leader⟩
  · exact h.msg
theorem mv_ones {m : MV} (h : m.Ok) : m.cells.all (·.oneCell') = true := by have := h.ones; simpa using this
theorem take5m {x : OpV} (h : x.Ok) : ((.int .i64 x.kind :: .int .i64 x.group :: .int .i64 x.frm :: .string x.body :: .int .i64 x.value :: (x.msg.cells ++ [.bool x.fit])).drop 5).take 47 = .int .i64 x.msg.kind :: .int .i64 x.msg.group :: .int .i64 x.msg.client :: .int .i64 x.msg.number :: .int .i64 x.msg.code :: .string x.msg.body :: .int .i64 x.msg.leader :: x.msg.rest := by
  show (x.msg.cells ++ [Value.bool x.fit]).take 47 = x.msg.cells
  rw [List.take_append_of_le_length (by rw [h.msg.size]; exact Nat.le_refl _), List.take_of_length_le (by rw [h.msg.size]; exact Nat.le_refl _)]
theorem op_fit {x : OpV} (h : x.Ok) {w : World} {g : Nat} (hb : Blk w g 43 (.int .i64 x.kind :: .int .i64 x.group :: .int .i64 x.frm :: .string x.body :: .int .i64 x.value :: (x.msg.cells ++ [.bool x.fit])).toArray) : w.cell? ⟨g, 52, none⟩ = some (.bool x.fit) := by
  rw [hb.cell 52]
  simp only [List.getElem?_toArray, List.getElem?_cons_succ]
  rw [List.getElem?_append_right (by rw [h.msg.size]; exact Nat.le_refl _), h.msg.size]
  rfl
set_option maxRecDepth 100000 in
set_option maxHeartbeats 1000000 in
theorem reply_c (x : OpV) (hx : x.Ok) (n : Int) (w : World) : Calls Try.prog 14 #[.agg x.cells.toArray, .int .i64 n] w (Hands w (.agg (repM x n).cells.toArray)) := by
  have HO := hide (Own.nil w [] (by simp))
  have HX := hide hx
  have HXO := hide (mv_ones hx.msg)
  have HXP : Hid ({ x.msg with number := n } : MV).Ok := hide ⟨hx.msg.len, hx.msg.one, hx.msg.leader⟩
  replace HXP := hide (mv_ones HXP.out)
  have HXF := hide (fun (W : World) (g : Nat) (hb : Blk W g 43 (.int .i64 x.kind :: .int .i64 x.group :: .int .i64 x.frm :: .string x.body :: .int .i64 x.value :: (x.msg.cells ++ [.bool x.fit])).toArray) => op_fit hx hb)
  clear hx
  unfold repM
  cases hf : x.fit with
  | false =>
    have HF := hide hf
    clear hf
    rw [if_neg (by simp)]
    have hx0 := HX.out.body
    go_enter Try.func14, Try.ntmps14
    go_wp2_with (first
      | ((with_reducible refine at_box 43 (.tmp 0) ?_); refine wpList_box_own HO.out rfl 43 (.tmp 0) rfl (.int .i64 x.kind :: .int .i64 x.group :: .int .i64 x.frm :: .string x.body :: .int .i64 x.value :: (x.msg.cells ++ [.bool x.fit])) rfl ?_; intro WA b0 hO; replace HO := hide hO; clear hO)
      | ((with_reducible refine at_alloc 41 ?_); refine wpList_alloc_own HO.out rfl 41 rfl zmsgI zmsgI_info ?_; intro WA bn hO; replace HO := hide hO; clear hO)
      | ((with_reducible refine at_load 41 (.tmp 6) ?_); refine wpList_load_own HO.out rfl 41 (.tmp 6) rfl 0 _ 5 47 _ _ (.int .i64 x.msg.kind :: .int .i64 x.msg.group :: .int .i64 x.msg.client :: .int .i64 x.msg.number :: .int .i64 x.msg.code :: .string x.msg.body :: .int .i64 x.msg.leader :: x.msg.rest) _ rfl (take5m HX.out) rfl Try.underlying41 rfl (msg_size HX.out.msg.size) ?_)
      | ((with_reducible refine at_store 41 (.tmp 5) ?_); refine wpList_store_own HO.out rfl 41 (.tmp 5) _ rfl 2 _ 0 _ _ (.int .i64 x.msg.kind :: .int .i64 x.msg.group :: .int .i64 x.msg.client :: .int .i64 x.msg.number :: .int .i64 x.msg.code :: .string x.msg.body :: .int .i64 x.msg.leader :: x.msg.rest) (.int .i64 x.msg.kind :: .int .i64 x.msg.group :: .int .i64 x.msg.client :: .int .i64 x.msg.number :: .int .i64 x.msg.code :: .string x.msg.body :: .int .i64 x.msg.leader :: x.msg.rest) rfl (.agg (.int .i64 x.msg.kind :: .int .i64 x.msg.group :: .int .i64 x.msg.client :: .int .i64 x.msg.number :: .int .i64 x.msg.code :: .string x.msg.body :: .int .i64 x.msg.leader :: x.msg.rest).toArray) rfl rfl (fits_agg _) (by rw [show (.int .i64 x.msg.kind :: .int .i64 x.msg.group :: .int .i64 x.msg.client :: .int .i64 x.msg.number :: .int .i64 x.msg.code :: .string x.msg.body :: .int .i64 x.msg.leader :: x.msg.rest).length = 47 from HX.out.msg.size, zmsgI_len]; exact Nat.le_refl _) (splice_all (by rw [show (.int .i64 x.msg.kind :: .int .i64 x.msg.group :: .int .i64 x.msg.client :: .int .i64 x.msg.number :: .int .i64 x.msg.code :: .string x.msg.body :: .int .i64 x.msg.leader :: x.msg.rest).length = 47 from HX.out.msg.size, zmsgI_len])) (msg_size HX.out.msg.size) HXO.out ?_; intro WA hO; replace HO := hide hO; have k2 := hO.cells 2 rfl; have kf := HXF.out _ _ (hO.blk 0 rfl); rw [HF.out] at kf; clear hO)
      | ((with_reducible refine at_store 3 (.tmp 16) ?_); refine wpList_store_own HO.out rfl 3 (.tmp 16) _ rfl 2 _ 3 _ _ ([.int .i64 n]) (.int .i64 x.msg.kind :: .int .i64 x.msg.group :: .int .i64 x.msg.client :: .int .i64 n :: .int .i64 x.msg.code :: .string x.msg.body :: .int .i64 x.msg.leader :: x.msg.rest) rfl (.int .i64 n) rfl rfl (fits_one rfl) (by simp) rfl int_size rfl ?_; intro WA hO; replace HO := hide hO; clear hO)
      | ((with_reducible refine at_load 41 (.tmp 5) ?_); refine wpList_load_own HO.out rfl 41 (.tmp 5) rfl 2 _ 0 47 _ _ (.int .i64 x.msg.kind :: .int .i64 x.msg.group :: .int .i64 x.msg.client :: .int .i64 x.msg.number :: .int .i64 x.msg.code :: .string x.msg.body :: .int .i64 x.msg.leader :: x.msg.rest) _ rfl (take_all HX.out.msg.size) rfl Try.underlying41 rfl (msg_size HX.out.msg.size) ?_)
      | ((with_reducible refine at_store 41 (.tmp 4) ?_); refine wpList_store_own HO.out rfl 41 (.tmp 4) _ rfl 1 _ 0 _ _ (.int .i64 x.msg.kind :: .int .i64 x.msg.group :: .int .i64 x.msg.client :: .int .i64 x.msg.number :: .int .i64 x.msg.code :: .string x.msg.body :: .int .i64 x.msg.leader :: x.msg.rest) (.int .i64 x.msg.kind :: .int .i64 x.msg.group :: .int .i64 x.msg.client :: .int .i64 x.msg.number :: .int .i64 x.msg.code :: .string x.msg.body :: .int .i64 x.msg.leader :: x.msg.rest) rfl (.agg (.int .i64 x.msg.kind :: .int .i64 x.msg.group :: .int .i64 x.msg.client :: .int .i64 x.msg.number :: .int .i64 x.msg.code :: .string x.msg.body :: .int .i64 x.msg.leader :: x.msg.rest).toArray) rfl rfl (fits_agg _) (by rw [show (.int .i64 x.msg.kind :: .int .i64 x.msg.group :: .int .i64 x.msg.client :: .int .i64 x.msg.number :: .int .i64 x.msg.code :: .string x.msg.body :: .int .i64 x.msg.leader :: x.msg.rest).length = 47 from HX.out.msg.size, zmsgI_len]; exact Nat.le_refl _) (splice_all (by rw [show (.int .i64 x.msg.kind :: .int .i64 x.msg.group :: .int .i64 x.msg.client :: .int .i64 x.msg.number :: .int .i64 x.msg.code :: .string x.msg.body :: .int .i64 x.msg.leader :: x.msg.rest).length = 47 from HX.out.msg.size, zmsgI_len])) (msg_size HX.out.msg.size) HXO.out ?_; intro WA hO; replace HO := hide hO; clear hO))
    refine bodyPost_ret (results_row rfl _ HO.out 1 _ _ _ _ rfl rfl Try.underlying41 rfl (msg_size HX.out.msg.size)) rfl ?_
    exact ⟨rfl, HO.out.below⟩
  | true =>
    have HF := hide hf
    clear hf
    by_cases hn : x.msg.number = 0
    · rw [if_pos ⟨rfl, hn⟩]
      have hn1 : (x.msg.number == 0) = true := by simpa using hn
      go_enter Try.func14, Try.ntmps14
      go_wp2_with (first
        | ((with_reducible refine at_box 43 (.tmp 0) ?_); refine wpList_box_own HO.out rfl 43 (.tmp 0) rfl (.int .i64 x.kind :: .int .i64 x.group :: .int .i64 x.frm :: .string x.body :: .int .i64 x.value :: (x.msg.cells ++ [.bool x.fit])) rfl ?_; intro WA b0 hO; replace HO := hide hO; clear hO)
        | ((with_reducible refine at_alloc 41 ?_); refine wpList_alloc_own HO.out rfl 41 rfl zmsgI zmsgI_info ?_; intro WA bn hO; replace HO := hide hO; clear hO)
        | ((with_reducible refine at_load 41 (.tmp 6) ?_); refine wpList_load_own HO.out rfl 41 (.tmp 6) rfl 0 _ 5 47 _ _ (.int .i64 x.msg.kind :: .int .i64 x.msg.group :: .int .i64 x.msg.client :: .int .i64 x.msg.number :: .int .i64 x.msg.code :: .string x.msg.body :: .int .i64 x.msg.leader :: x.msg.rest) _ rfl (take5m HX.out) rfl Try.underlying41 rfl (msg_size HX.out.msg.size) ?_)
        | ((with_reducible refine at_store 41 (.tmp 5) ?_); refine wpList_store_own HO.out rfl 41 (.tmp 5) _ rfl 2 _ 0 _ _ (.int .i64 x.msg.kind :: .int .i64 x.msg.group :: .int .i64 x.msg.client :: .int .i64 x.msg.number :: .int .i64 x.msg.code :: .string x.msg.body :: .int .i64 x.msg.leader :: x.msg.rest) (.int .i64 x.msg.kind :: .int .i64 x.msg.group :: .int .i64 x.msg.client :: .int .i64 x.msg.number :: .int .i64 x.msg.code :: .string x.msg.body :: .int .i64 x.msg.leader :: x.msg.rest) rfl (.agg (.int .i64 x.msg.kind :: .int .i64 x.msg.group :: .int .i64 x.msg.client :: .int .i64 x.msg.number :: .int .i64 x.msg.code :: .string x.msg.body :: .int .i64 x.msg.leader :: x.msg.rest).toArray) rfl rfl (fits_agg _) (by rw [show (.int .i64 x.msg.kind :: .int .i64 x.msg.group :: .int .i64 x.msg.client :: .int .i64 x.msg.number :: .int .i64 x.msg.code :: .string x.msg.body :: .int .i64 x.msg.leader :: x.msg.rest).length = 47 from HX.out.msg.size, zmsgI_len]; exact Nat.le_refl _) (splice_all (by rw [show (.int .i64 x.msg.kind :: .int .i64 x.msg.group :: .int .i64 x.msg.client :: .int .i64 x.msg.number :: .int .i64 x.msg.code :: .string x.msg.body :: .int .i64 x.msg.leader :: x.msg.rest).length = 47 from HX.out.msg.size, zmsgI_len])) (msg_size HX.out.msg.size) HXO.out ?_; intro WA hO; replace HO := hide hO; have k2 := hO.cells 2 rfl; have kf := HXF.out _ _ (hO.blk 0 rfl); rw [HF.out] at kf; clear hO)
        | ((with_reducible refine at_store 3 (.tmp 16) ?_); refine wpList_store_own HO.out rfl 3 (.tmp 16) _ rfl 2 _ 3 _ _ ([.int .i64 n]) (.int .i64 x.msg.kind :: .int .i64 x.msg.group :: .int .i64 x.msg.client :: .int .i64 n :: .int .i64 x.msg.code :: .string x.msg.body :: .int .i64 x.msg.leader :: x.msg.rest) rfl (.int .i64 n) rfl rfl (fits_one rfl) (by simp) rfl int_size rfl ?_; intro WA hO; replace HO := hide hO; clear hO)
        | ((with_reducible refine at_load 41 (.tmp 5) ?_); refine wpList_load_own HO.out rfl 41 (.tmp 5) rfl 2 _ 0 47 _ _ (.int .i64 x.msg.kind :: .int .i64 x.msg.group :: .int .i64 x.msg.client :: .int .i64 n :: .int .i64 x.msg.code :: .string x.msg.body :: .int .i64 x.msg.leader :: x.msg.rest) _ rfl (take_all HX.out.msg.size) rfl Try.underlying41 rfl (msg_size HX.out.msg.size) ?_)
        | ((with_reducible refine at_store 41 (.tmp 4) ?_); refine wpList_store_own HO.out rfl 41 (.tmp 4) _ rfl 1 _ 0 _ _ (.int .i64 x.msg.kind :: .int .i64 x.msg.group :: .int .i64 x.msg.client :: .int .i64 n :: .int .i64 x.msg.code :: .string x.msg.body :: .int .i64 x.msg.leader :: x.msg.rest) (.int .i64 x.msg.kind :: .int .i64 x.msg.group :: .int .i64 x.msg.client :: .int .i64 n :: .int .i64 x.msg.code :: .string x.msg.body :: .int .i64 x.msg.leader :: x.msg.rest) rfl (.agg (.int .i64 x.msg.kind :: .int .i64 x.msg.group :: .int .i64 x.msg.client :: .int .i64 n :: .int .i64 x.msg.code :: .string x.msg.body :: .int .i64 x.msg.leader :: x.msg.rest).toArray) rfl rfl (fits_agg _) (by rw [show (.int .i64 x.msg.kind :: .int .i64 x.msg.group :: .int .i64 x.msg.client :: .int .i64 n :: .int .i64 x.msg.code :: .string x.msg.body :: .int .i64 x.msg.leader :: x.msg.rest).length = 47 from HX.out.msg.size, zmsgI_len]; exact Nat.le_refl _) (splice_all (by rw [show (.int .i64 x.msg.kind :: .int .i64 x.msg.group :: .int .i64 x.msg.client :: .int .i64 n :: .int .i64 x.msg.code :: .string x.msg.body :: .int .i64 x.msg.leader :: x.msg.rest).length = 47 from HX.out.msg.size, zmsgI_len])) (msg_size HX.out.msg.size) HXP.out ?_; intro WA hO; replace HO := hide hO; clear hO))
      refine bodyPost_ret (results_row rfl _ HO.out 1 _ _ _ _ rfl rfl Try.underlying41 rfl (msg_size HX.out.msg.size)) rfl ?_
      exact ⟨rfl, HO.out.below⟩
    · rw [if_neg (by simp [hn])]
      have hn1 : (x.msg.number == 0) = false := by simpa using hn
      go_enter Try.func14, Try.ntmps14
      go_wp2_with (first
        | ((with_reducible refine at_box 43 (.tmp 0) ?_); refine wpList_box_own HO.out rfl 43 (.tmp 0) rfl (.int .i64 x.kind :: .int .i64 x.group :: .int .i64 x.frm :: .string x.body :: .int .i64 x.value :: (x.msg.cells ++ [.bool x.fit])) rfl ?_; intro WA b0 hO; replace HO := hide hO; clear hO)
        | ((with_reducible refine at_alloc 41 ?_); refine wpList_alloc_own HO.out rfl 41 rfl zmsgI zmsgI_info ?_; intro WA bn hO; replace HO := hide hO; clear hO)
        | ((with_reducible refine at_load 41 (.tmp 6) ?_); refine wpList_load_own HO.out rfl 41 (.tmp 6) rfl 0 _ 5 47 _ _ (.int .i64 x.msg.kind :: .int .i64 x.msg.group :: .int .i64 x.msg.client :: .int .i64 x.msg.number :: .int .i64 x.msg.code :: .string x.msg.body :: .int .i64 x.msg.leader :: x.msg.rest) _ rfl (take5m HX.out) rfl Try.underlying41 rfl (msg_size HX.out.msg.size) ?_)
        | ((with_reducible refine at_store 41 (.tmp 5) ?_); refine wpList_store_own HO.out rfl 41 (.tmp 5) _ rfl 2 _ 0 _ _ (.int .i64 x.msg.kind :: .int .i64 x.msg.group :: .int .i64 x.msg.client :: .int .i64 x.msg.number :: .int .i64 x.msg.code :: .string x.msg.body :: .int .i64 x.msg.leader :: x.msg.rest) (.int .i64 x.msg.kind :: .int .i64 x.msg.group :: .int .i64 x.msg.client :: .int .i64 x.msg.number :: .int .i64 x.msg.code :: .string x.msg.body :: .int .i64 x.msg.leader :: x.msg.rest) rfl (.agg (.int .i64 x.msg.kind :: .int .i64 x.msg.group :: .int .i64 x.msg.client :: .int .i64 x.msg.number :: .int .i64 x.msg.code :: .string x.msg.body :: .int .i64 x.msg.leader :: x.msg.rest).toArray) rfl rfl (fits_agg _) (by rw [show (.int .i64 x.msg.kind :: .int .i64 x.msg.group :: .int .i64 x.msg.client :: .int .i64 x.msg.number :: .int .i64 x.msg.code :: .string x.msg.body :: .int .i64 x.msg.leader :: x.msg.rest).length = 47 from HX.out.msg.size, zmsgI_len]; exact Nat.le_refl _) (splice_all (by rw [show (.int .i64 x.msg.kind :: .int .i64 x.msg.group :: .int .i64 x.msg.client :: .int .i64 x.msg.number :: .int .i64 x.msg.code :: .string x.msg.body :: .int .i64 x.msg.leader :: x.msg.rest).length = 47 from HX.out.msg.size, zmsgI_len])) (msg_size HX.out.msg.size) HXO.out ?_; intro WA hO; replace HO := hide hO; have k2 := hO.cells 2 rfl; have kf := HXF.out _ _ (hO.blk 0 rfl); rw [HF.out] at kf; clear hO)
        | ((with_reducible refine at_store 3 (.tmp 16) ?_); refine wpList_store_own HO.out rfl 3 (.tmp 16) _ rfl 2 _ 3 _ _ ([.int .i64 n]) (.int .i64 x.msg.kind :: .int .i64 x.msg.group :: .int .i64 x.msg.client :: .int .i64 n :: .int .i64 x.msg.code :: .string x.msg.body :: .int .i64 x.msg.leader :: x.msg.rest) rfl (.int .i64 n) rfl rfl (fits_one rfl) (by simp) rfl int_size rfl ?_; intro WA hO; replace HO := hide hO; clear hO)
        | ((with_reducible refine at_load 41 (.tmp 5) ?_); refine wpList_load_own HO.out rfl 41 (.tmp 5) rfl 2 _ 0 47 _ _ (.int .i64 x.msg.kind :: .int .i64 x.msg.group :: .int .i64 x.msg.client :: .int .i64 x.msg.number :: .int .i64 x.msg.code :: .string x.msg.body :: .int .i64 x.msg.leader :: x.msg.rest) _ rfl (take_all HX.out.msg.size) rfl Try.underlying41 rfl (msg_size HX.out.msg.size) ?_)
        | ((with_reducible refine at_store 41 (.tmp 4) ?_); refine wpList_store_own HO.out rfl 41 (.tmp 4) _ rfl 1 _ 0 _ _ (.int .i64 x.msg.kind :: .int .i64 x.msg.group :: .int .i64 x.msg.client :: .int .i64 x.msg.number :: .int .i64 x.msg.code :: .string x.msg.body :: .int .i64 x.msg.leader :: x.msg.rest) (.int .i64 x.msg.kind :: .int .i64 x.msg.group :: .int .i64 x.msg.client :: .int .i64 x.msg.number :: .int .i64 x.msg.code :: .string x.msg.body :: .int .i64 x.msg.leader :: x.msg.rest) rfl (.agg (.int .i64 x.msg.kind :: .int .i64 x.msg.group :: .int .i64 x.msg.client :: .int .i64 x.msg.number :: .int .i64 x.msg.code :: .string x.msg.body :: .int .i64 x.msg.leader :: x.msg.rest).toArray) rfl rfl (fits_agg _) (by rw [show (.int .i64 x.msg.kind :: .int .i64 x.msg.group :: .int .i64 x.msg.client :: .int .i64 x.msg.number :: .int .i64 x.msg.code :: .string x.msg.body :: .int .i64 x.msg.leader :: x.msg.rest).length = 47 from HX.out.msg.size, zmsgI_len]; exact Nat.le_refl _) (splice_all (by rw [show (.int .i64 x.msg.kind :: .int .i64 x.msg.group :: .int .i64 x.msg.client :: .int .i64 x.msg.number :: .int .i64 x.msg.code :: .string x.msg.body :: .int .i64 x.msg.leader :: x.msg.rest).length = 47 from HX.out.msg.size, zmsgI_len])) (msg_size HX.out.msg.size) HXO.out ?_; intro WA hO; replace HO := hide hO; clear hO))
      refine bodyPost_ret (results_row rfl _ HO.out 1 _ _ _ _ rfl rfl Try.underlying41 rfl (msg_size HX.out.msg.size)) rfl ?_
      exact ⟨rfl, HO.out.below⟩
end Go.Proofs.Ytpbgelhjbfckcaa
/- Steps on the blocks that a call has laid, with what turned; lists of such blocks taken apart. -/
namespace Go.Proofs.Ytpbgelhjbfckcaa
open Go.ChangeShapes Go.WideShapes Go.ChangeAt Go.RowKit
set_option linter.unusedVariables false

section
variable {P : Program} {w w0 W : World} {S : List Nat} {L M : List (Nat × TypeId × List Value)} {ops : Array Oper} {rest : List Oper} {op : Oper} {a : Act} {Q : Exit → Act → World → Prop} {K : Act → World → Prop} {E : Prop}
theorem Own.sub (h : Own w0 S L W) (hs : M.Sublist L) : Own w0 S M W := ⟨fun e he => h.has e (hs.mem he), h.apart.sublist (hs.map _), h.touch, h.old⟩
theorem Own.perm (h : Own w0 S L W) (hp : L.Perm M) : Own w0 S M W := ⟨fun e he => h.has e (hp.mem_iff.2 he), (hp.map _).nodup_iff.1 h.apart, h.touch, h.old⟩
theorem Own.swap {x y : Nat × TypeId × List Value} (h : Own w0 S (L ++ [x] ++ [y]) W) : Own w0 S (L ++ [y] ++ [x]) W := h.perm (by
  rw [List.append_assoc, List.append_assoc]
  exact (List.Perm.swap y x []).append_left L)
theorem wpList_store_own_t (HO : Own w0 S L w) (hgd : op.guard = none) (ty : TypeId) (x y : Operand) (ho : op.op = .store ty x y) (i g o : Nat) (t : TypeId) (old vs new : List Value) (hL : L[i]? = some (g, t, old))
    (v : Value) (hx : a.eval x = .pointer (some ⟨g, o, none⟩)) (hy : a.eval y = v) (hv : Fits v vs) (hs : o + vs.length ≤ old.length) (hn : old.take o ++ vs ++ old.drop (o + vs.length) = new)
    (hi : (P.info? ty).map (·.size) = some vs.length) (h1 : vs.all (·.oneCell') = true)
    (h : ∀ w', Own w0 S (L.set i (g, t, new)) w' → Blk w g t old.toArray → Touch [g] w w' → wpList P ops Q rest (a.put op.dst undef) w') : wpList P ops Q (op :: rest) a w := wpList_plain hgd fun K hK => by
  unfold Oper.wp execOp
  simp only [ho, hx, hy, Sem.run_bind, run_store_own hv (HO.blk i hL) hs hi h1, Result.andThen_ok]
  exact hK _ _ (h _ (own_store HO i hL hs hn) (HO.blk i hL) (touch_setCells w g o _).1)
theorem step_store_own_t (HO : Own w0 S L w) (hw : Region.wanted op (yielded ops a.tmps) = true) (ty : TypeId) (x y : Operand) (ho : op.op = .store ty x y) (i g o : Nat) (t : TypeId) (old vs new : List Value) (hL : L[i]? = some (g, t, old))
    (v : Value) (hx : a.eval x = .pointer (some ⟨g, o, none⟩)) (hy : a.eval y = v) (hv : Fits v vs) (hs : o + vs.length ≤ old.length) (hn : old.take o ++ vs ++ old.drop (o + vs.length) = new)
    (hi : (P.info? ty).map (·.size) = some vs.length) (h1 : vs.all (·.oneCell') = true)
    (h : ∀ w', Own w0 S (L.set i (g, t, new)) w' → Blk w g t old.toArray → Touch [g] w w' → K (a.put op.dst undef) w') : if Region.wanted op (yielded ops a.tmps) = true then Oper.wp P op a w K Q else E := by
  rw [if_pos hw]
  unfold Oper.wp execOp
  simp only [ho, hx, hy, Sem.run_bind, run_store_own hv (HO.blk i hL) hs hi h1, Result.andThen_ok]
  exact h _ (own_store HO i hL hs hn) (HO.blk i hL) (touch_setCells w g o _).1
theorem wpList_alloc_own_t (HO : Own w0 S L w) (hgd : op.guard = none) (t : TypeId) (ho : op.op = .alloc t) (cs : List Value) (hi : (P.info? t).map (·.zero) = some (some (.agg cs.toArray)))
    (h : ∀ w' b, Own w0 S (L ++ [(b, t, cs)]) w' → Below w.heap.size w w' → wpList P ops Q rest (a.put op.dst (.pointer (some ⟨b, 0, none⟩))) w') : wpList P ops Q (op :: rest) a w :=
  wpList_alloc_blk hgd t ho cs.toArray hi fun w' h1 h2 _ => h w' _ (HO.push h1 h2) h2
theorem wpList_box_own_t (HO : Own w0 S L w) (hgd : op.guard = none) (t : TypeId) (x : Operand) (ho : op.op = .box t x) (cs : List Value) (hx : a.eval x = .agg cs.toArray)
    (h : ∀ w' b, Own w0 S (L ++ [(b, t, cs)]) w' → Below w.heap.size w w' → wpList P ops Q rest (a.put op.dst (.pointer (some ⟨b, 0, none⟩))) w') : wpList P ops Q (op :: rest) a w :=
  wpList_box_blk hgd t x ho cs.toArray hx fun w' h1 h2 _ => h w' _ (HO.push h1 h2) h2
theorem step_slice_own_t (HO : Own w0 S L w) (hw : Region.wanted op (yielded ops a.tmps) = true) (t e : TypeId) (len : Nat) (parts : Array (Nat × Operand)) (ho : op.op = .buildSlice t len parts) (hu : P.underlying t = some (.slice e)) (cs : List Value)
    (hf : P.builtSlice e len (parts.map fun (i, x) => (i, a.eval x)).toList = some cs.toArray)
    (h : ∀ w' b, Own w0 S (L ++ [(b, e, cs)]) w' → Below w.heap.size w w' → K (a.put op.dst (.slice (some ⟨b, 0, none⟩) len len)) w') : if Region.wanted op (yielded ops a.tmps) = true then Oper.wp P op a w K Q else E := by
  rw [if_pos hw]
  have hp : (Instr.buildSlice t len (parts.map fun (i, x) => (i, a.eval x))).run P w = .ok (.slice (some ⟨w.heap.size, 0, none⟩) len len) (w.alloc (.cells cs.toArray e)) := by
    unfold Program.builtSlice at hf
    cases hie : P.info? e with
    | none => simp [hie] at hf
    | some ie =>
      cases hz : ie.zero with
      | none => simp [hie, hz] at hf
      | some z =>
        simp only [hie, hz] at hf
        split at hf
        · cases hf
        · rename_i hn
          exact run_buildSlice w t e len _ _ ie z hu hie hz (fun h => hn (.inl h)) (fun h => hn (.inr h)) hf
  unfold Oper.wp execOp
  simp only [ho, Sem.run_bind, hp, Result.andThen_ok]
  exact h _ _ (HO.push (Blk.new w e cs.toArray) ((Below.refl _ _).alloc (Nat.le_refl _) _)) ((Below.refl _ _).alloc (Nat.le_refl _) _)
end
theorem tail_0 {goal : Prop} {G I : World → Prop} (main : (∀ w, I w → G w) → goal) (tl : ∀ w, I w → G w) : goal := main tl
theorem tail_1 {goal : Prop} {G I : Nat → World → Prop} (main : (∀ b w, I b w → G b w) → goal) (tl : ∀ b w, I b w → G b w) : goal := main tl
theorem tail_2 {goal : Prop} {G I : Nat → Nat → World → Prop} (main : (∀ b c w, I b c w → G b c w) → goal) (tl : ∀ b c w, I b c w → G b c w) : goal := main tl
theorem tail_3 {goal : Prop} {G I : Nat → Nat → Nat → World → Prop} (main : (∀ b c d w, I b c d w → G b c d w) → goal) (tl : ∀ b c d w, I b c d w → G b c d w) : goal := main tl
end Go.Proofs.Ytpbgelhjbfckcaa
