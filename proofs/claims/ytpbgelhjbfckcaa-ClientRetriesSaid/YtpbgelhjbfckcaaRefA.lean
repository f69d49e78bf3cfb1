/- The reference: New, begin. -/
import Derived.Test.YtpbgelhjbfckcaaOpn
import Derived.Test.YtpbgelhjbfckcaaOwn2
namespace Go.Proofs.Ytpbgelhjbfckcaa
open Go.ChangeShapes Go.WideShapes Go.ChangeAt Go.RowKit
set_option linter.unusedVariables false
set_option linter.unusedSimpArgs false

/-- The cells of the reference's client. -/
abbrev rcl (i m T n : Int) (o : Bool) (cs : List Value) : List Value := .int .i64 i :: .int .i64 m :: .int .i64 T :: .int .i64 n :: .bool o :: cs
/-- Those of a client's state. -/
def rC (S : CS) : List Value := rcl S.id S.machines S.target S.number S.opened.isSome (openOf S).1
@[irreducible] def zrc : List Value := rcl 0 0 0 0 false zmsg
theorem zrc_def : zrc = rcl 0 0 0 0 false zmsg := by unfold zrc; rfl
theorem zrc_len : zrc.length = 52 := by rw [zrc_def]; rfl
theorem info_rc : (Try.prog.info? 46).map (fun i => (i.zero, i.size)) = some (some (.agg (rcl 0 0 0 0 false zmsg).toArray), 52) := by kernel_rfl
theorem zrc_info : (Try.prog.info? 46).map (·.zero) = some (some (.agg zrc.toArray)) := by
  have h := congrArg (Option.map Prod.fst) info_rc
  rw [Option.map_map] at h
  rw [zrc_def]
  exact h
theorem rc_size {cs : List Value} (h : cs.length = 52) : (Try.prog.info? 46).map (·.size) = some cs.length := by rw [h]; kernel_rfl
theorem out_size {cs : List Value} (h : cs.length = 48) : (Try.prog.info? 59).map (·.size) = some cs.length := by rw [h]; kernel_rfl
theorem msg_size {cs : List Value} (h : cs.length = 47) : (Try.prog.info? 41).map (·.size) = some cs.length := by rw [h]; kernel_rfl
theorem int_size {v : Value} : (Try.prog.info? 3).map (·.size) = some [v].length := by kernel_rfl
theorem bool_size {v : Value} : (Try.prog.info? 4).map (·.size) = some [v].length := by kernel_rfl
theorem rcl_len {i m T n : Int} {o : Bool} {cs : List Value} (h : cs.length = 47) : (rcl i m T n o cs).length = 52 := by simp [h]
theorem rcl_ones {i m T n : Int} {o : Bool} {cs : List Value} (h : cs.all (·.oneCell') = true) : (rcl i m T n o cs).all (·.oneCell') = true := by simpa [Value.oneCell'] using h
theorem out_ones {T : Int} {cs : List Value} (h : cs.all (·.oneCell') = true) : (Value.int .i64 T :: cs).all (·.oneCell') = true := by simpa [Value.oneCell'] using h
theorem zout_ones : zout.all (·.oneCell') = true := by have := zout_one; simpa using this
theorem built_rnew (a b : Int) : Try.prog.built 46 [(0, .int .i64 a), (1, .int .i64 b), (2, .int .i64 1)] = some (rcl a b 1 0 false zmsg).toArray := by kernel_rfl
/-- Handed back, and nothing that was there has turned. -/
def Hands (w : World) (v : Value) (e : Ending) (w' : World) : Prop := e = .returned v ∧ Below w.heap.size w w'

set_option maxRecDepth 100000 in
set_option maxHeartbeats 1000000 in
theorem rnew_c (a b : Int) (w : World) : Calls Try.prog 19 #[.int .i64 a, .int .i64 b] w (Hands w (.agg (rcl a b 1 0 false zmsg).toArray)) := by
  have HO := hide (Own.nil w [] (by simp))
  have HL : Hid ((rcl a b 1 0 false zmsg).length = 52) := hide rfl
  have HON : Hid ((rcl a b 1 0 false zmsg).all (·.oneCell') = true) := hide (by simp [zmsg, Value.oneCell'])
  have HBU := hide (built_rnew a b)
  generalize rcl a b 1 0 false zmsg = R at *
  go_enter Try.func19, Try.ntmps19
  go_wp2_with (first
    | (refine wpList_alloc_own HO.out rfl 46 rfl (zrc) zrc_info ?_; intro WA b0 hO; replace HO := hide hO; clear hO)
    | (refine wpList_build rfl 46 _ rfl ([(0, .int .i64 a), (1, .int .i64 b), (2, .int .i64 1)]) (by first | (simp [Act.eval]; done) | (simp [Act.eval]; rfl)) (R).toArray HBU.out ?_)
    | (refine wpList_store_own HO.out rfl 46 (.tmp 4) (.tmp 7) rfl 0 _ 0 _ _ (R) (R) rfl (.agg (R).toArray) rfl rfl (fits_agg _) (by rw [HL.out, zrc_len]; exact Nat.le_refl _) (splice_all (by rw [HL.out, zrc_len])) (rc_size HL.out) HON.out ?_; intro WA hO; replace HO := hide hO; clear hO))
  refine bodyPost_ret (results_row rfl _ HO.out 0 _ _ _ _ rfl rfl Try.underlying46 rfl (rc_size HL.out)) rfl ?_
  exact ⟨rfl, HO.out.below⟩

theorem splice5 {a0 a1 a2 a3 a4 : Value} {cs vs : List Value} (h : cs.length = vs.length) : (a0 :: a1 :: a2 :: a3 :: a4 :: cs).take 5 ++ vs ++ (a0 :: a1 :: a2 :: a3 :: a4 :: cs).drop (5 + vs.length) = a0 :: a1 :: a2 :: a3 :: a4 :: vs := by
  rw [List.drop_eq_nil_of_le (by simp <;> omega)]
  simp
set_option maxRecDepth 100000 in
set_option maxHeartbeats 1000000 in
theorem rbegin_c (i m T n : Int) (o : Bool) (cs rs : List Value) (va vb vc vd : Value) (h0 : 0 ≤ n) (h1 : n < 1000000) (hcs : cs.length = 47) (hrs : rs.length = 43) (h1c : cs.all (·.oneCell') = true) (h1m : (va :: vb :: vc :: vd :: rs).all (·.oneCell') = true) (w : World) :
    Calls Try.prog 50 #[.agg (rcl i m T n o cs).toArray, .agg (va :: vb :: vc :: vd :: rs).toArray] w (Hands w (.tuple #[.agg (rcl i m T (n + 1) true (va :: vb :: .int .i64 i :: .int .i64 (n + 1) :: rs)).toArray, .agg (.int .i64 T :: va :: vb :: .int .i64 i :: .int .i64 (n + 1) :: rs).toArray])) := by
  have HO := hide (Own.nil w [] (by simp))
  have HM2 : Hid ((va :: vb :: .int .i64 i :: .int .i64 (n + 1) :: rs).all (·.oneCell') = true) := hide (by
    simp only [List.all_cons, Bool.and_eq_true] at h1m ⊢
    exact ⟨h1m.1, h1m.2.1, rfl, rfl, h1m.2.2.2.2⟩)
  go_enter Try.func50, Try.ntmps50
  go_wp2_with (first
    | (refine wpList_box_own HO.out rfl 46 (.tmp 0) rfl (rcl i m T n o cs) rfl ?_; intro WA b0 hO; replace HO := hide hO; clear hO)
    | (refine wpList_box_own HO.out rfl 41 (.tmp 1) rfl (va :: vb :: vc :: vd :: rs) rfl ?_; intro WA b1 hO; replace HO := hide hO; clear hO)
    | (refine wpList_alloc_own HO.out rfl 46 rfl (zrc) zrc_info ?_; intro WA b2 hO; replace HO := hide hO; clear hO)
    | (refine wpList_alloc_own HO.out rfl 59 rfl zout zout_info ?_; intro WA b3 hO; replace HO := hide hO; have k0 := hO.cells 0 rfl; clear hO)
    | (refine wpList_store_own HO.out rfl 3 (.tmp 9) (.tmp 8) rfl 0 _ 3 _ _ ([.int .i64 (n + 1)]) (rcl i m T (n + 1) o cs) rfl (.int .i64 (n + 1)) rfl rfl (fits_one rfl) (by simp <;> omega) rfl int_size rfl ?_; intro WA hO; replace HO := hide hO; clear hO))
  clear k0
  refine wp_region_held_drew (S := fun W => (∀ j, W.cell? ⟨b0, j, none⟩ = (rcl i m T (n + 1) o cs : List Value)[j]?)) (by kernel_rfl) (HO.out.drew.cells 0 rfl) (fun hS0 => ?_)
  replace HO := hide HO.out.drew
  refine wpAnyH_take (i := 0) (v := ?vx0) rfl (by kernel_rfl) (by kernel_rfl) (by kernel_rfl) (fun _ _ _ h => h) (Or.inl ⟨by rfl, ?hyx0⟩) (by assumption) ?restx0
  case hyx0 => (intro w hSw; (try dsimp only at hSw); go_simp; first | done | (with_reducible rfl))
  try simp only [Act.put, List.getElem_toArray, List.getElem_cons_zero, List.getElem_cons_succ, List.setIfInBounds_toArray, List.set_cons_zero, List.set_cons_succ]
  refine wpAnyH_take (i := 1) (v := ?vx1) rfl (by kernel_rfl) (by kernel_rfl) (by kernel_rfl) (fun _ _ _ h => h) (Or.inl ⟨by rfl, ?hyx1⟩) (by assumption) ?restx1
  case hyx1 => (intro w hSw; (try dsimp only at hSw); go_simp; first | done | (with_reducible rfl))
  try simp only [Act.put, List.getElem_toArray, List.getElem_cons_zero, List.getElem_cons_succ, List.setIfInBounds_toArray, List.set_cons_zero, List.set_cons_succ]
  refine wpAnyH_take (i := 2) (v := ?vx2) rfl (by kernel_rfl) (by kernel_rfl) (by kernel_rfl) (fun _ _ _ h => h) (Or.inl ⟨by rfl, ?hyx2⟩) (by assumption) ?restx2
  case hyx2 => (intro w hSw; (try dsimp only at hSw); go_simp; first | done | (with_reducible rfl))
  try simp only [Act.put, List.getElem_toArray, List.getElem_cons_zero, List.getElem_cons_succ, List.setIfInBounds_toArray, List.set_cons_zero, List.set_cons_succ]
  refine wpAnyH_take (i := 3) (v := ?vx3) rfl (by kernel_rfl) (by kernel_rfl) (by kernel_rfl) (fun _ _ _ h => h) (Or.inl ⟨by rfl, ?hyx3⟩) (by assumption) ?restx3
  case hyx3 => (intro w hSw; (try dsimp only at hSw); go_simp; first | done | (with_reducible rfl))
  try simp only [Act.put, List.getElem_toArray, List.getElem_cons_zero, List.getElem_cons_succ, List.setIfInBounds_toArray, List.set_cons_zero, List.set_cons_succ]
  refine wpAnyH_take (i := 4) (v := ?vx4) rfl (by kernel_rfl) (by kernel_rfl) (by kernel_rfl) (fun _ _ _ h => h) (Or.inl ⟨by rfl, ?hyx4⟩) (by assumption) ?restx4
  case hyx4 => (intro w hSw; (try dsimp only at hSw); go_simp; first | done | (with_reducible rfl))
  try simp only [Act.put, List.getElem_toArray, List.getElem_cons_zero, List.getElem_cons_succ, List.setIfInBounds_toArray, List.set_cons_zero, List.set_cons_succ]
  refine wpAnyH_ready (rs := [5]) (by kernel_rfl) (by simp) ?_
  refine AllReadyH.cons rfl (fun K hK => ?_) AllReadyH.nil
  refine step_store_own HO.out rfl 3 (.tmp 14) (.tmp 11) rfl 1 _ 2 _ _ ([.int .i64 i]) (va :: vb :: .int .i64 i :: vd :: rs) rfl (.int .i64 i) rfl rfl (fits_one rfl) (by simp <;> omega) rfl int_size rfl ?_
  intro WA hO
  replace HO := hide hO
  clear hO
  refine hK.out _ _ (HO.out.cells 0 rfl) (fun hS5 => ?_)
  clear hK K
  try simp only [Act.put, List.getElem_toArray, List.getElem_cons_zero, List.getElem_cons_succ, List.setIfInBounds_toArray, List.set_cons_zero, List.set_cons_succ]
  refine wpAnyH_take (i := 6) (v := ?vx6) rfl (by kernel_rfl) (by kernel_rfl) (by kernel_rfl) (fun _ _ _ h => h) (Or.inl ⟨by rfl, ?hyx6⟩) (by assumption) ?restx6
  case hyx6 => (intro w hSw; (try dsimp only at hSw); go_simp; first | done | (with_reducible rfl))
  try simp only [Act.put, List.getElem_toArray, List.getElem_cons_zero, List.getElem_cons_succ, List.setIfInBounds_toArray, List.set_cons_zero, List.set_cons_succ]
  refine wpAnyH_ready (rs := [7]) (by kernel_rfl) (by simp) ?_
  refine AllReadyH.cons rfl (fun K hK => ?_) AllReadyH.nil
  refine step_store_own HO.out rfl 3 (.tmp 15) (.tmp 13) rfl 1 _ 3 _ _ ([.int .i64 (n + 1)]) (va :: vb :: .int .i64 i :: .int .i64 (n + 1) :: rs) rfl (.int .i64 (n + 1)) rfl rfl (fits_one rfl) (by simp <;> omega) rfl int_size rfl ?_
  intro WA hO
  replace HO := hide hO
  clear hO
  refine hK.out _ _ (HO.out.cells 0 rfl) (fun hS7 => ?_)
  clear hK K
  try simp only [Act.put, List.getElem_toArray, List.getElem_cons_zero, List.getElem_cons_succ, List.setIfInBounds_toArray, List.set_cons_zero, List.set_cons_succ]
  refine wpAnyH_done (by kernel_rfl) ?_ _
  clear hS0
  go_wp2_with fail
  refine wp_region_held_drew (S := fun W => (∀ j, W.cell? ⟨b1, j, none⟩ = (va :: vb :: .int .i64 i :: .int .i64 (n + 1) :: rs : List Value)[j]?)) (by kernel_rfl) (HO.out.drew.cells 1 rfl) (fun hS0 => ?_)
  replace HO := hide HO.out.drew
  refine wpAnyH_take (i := 0) (v := .agg (va :: vb :: .int .i64 i :: .int .i64 (n + 1) :: rs).toArray) rfl (by kernel_rfl) (by kernel_rfl) (by kernel_rfl) (fun _ _ _ h => h) (yieldsIf_load rfl 41 (.tmp 3) rfl b1 0 47 41 (va :: vb :: .int .i64 i :: .int .i64 (n + 1) :: rs) (va :: vb :: .int .i64 i :: .int .i64 (n + 1) :: rs) _ (fun w hw => hw) (take_all (by simp <;> omega)) rfl Try.underlying41 rfl (msg_size (by simp <;> omega))) (by assumption) ?_
  try simp only [Act.put, List.getElem_toArray, List.getElem_cons_zero, List.getElem_cons_succ, List.setIfInBounds_toArray, List.set_cons_zero, List.set_cons_succ]
  refine wpAnyH_take (i := 1) (v := ?vy1) rfl (by kernel_rfl) (by kernel_rfl) (by kernel_rfl) (fun _ _ _ h => h) (Or.inl ⟨by rfl, ?hyy1⟩) (by assumption) ?resty1
  case hyy1 => (intro w hSw; (try dsimp only at hSw); go_simp; first | done | (with_reducible rfl))
  try simp only [Act.put, List.getElem_toArray, List.getElem_cons_zero, List.getElem_cons_succ, List.setIfInBounds_toArray, List.set_cons_zero, List.set_cons_succ]
  refine wpAnyH_ready (rs := [2]) (by kernel_rfl) (by simp) ?_
  refine AllReadyH.cons rfl (fun K hK => ?_) AllReadyH.nil
  refine step_store_own HO.out rfl 4 (.tmp 17) _ rfl 0 _ 4 _ _ ([.bool true]) (rcl i m T (n + 1) true cs) rfl (.bool true) rfl rfl (fits_one rfl) (by simp <;> omega) rfl bool_size rfl ?_
  intro WA hO
  replace HO := hide hO
  clear hO
  refine hK.out _ _ (HO.out.cells 1 rfl) (fun hS2 => ?_)
  clear hK K
  try simp only [Act.put, List.getElem_toArray, List.getElem_cons_zero, List.getElem_cons_succ, List.setIfInBounds_toArray, List.set_cons_zero, List.set_cons_succ]
  refine wpAnyH_take (i := 3) (v := ?vy3) rfl (by kernel_rfl) (by kernel_rfl) (by kernel_rfl) (fun _ _ _ h => h) (Or.inl ⟨by rfl, ?hyy3⟩) (by assumption) ?resty3
  case hyy3 => (intro w hSw; (try dsimp only at hSw); go_simp; first | done | (with_reducible rfl))
  try simp only [Act.put, List.getElem_toArray, List.getElem_cons_zero, List.getElem_cons_succ, List.setIfInBounds_toArray, List.set_cons_zero, List.set_cons_succ]
  refine wpAnyH_ready (rs := [4]) (by kernel_rfl) (by simp) ?_
  refine AllReadyH.cons rfl (fun K hK => ?_) AllReadyH.nil
  refine step_store_own HO.out rfl 41 (.tmp 18) (.tmp 16) rfl 0 _ 5 _ _ (va :: vb :: .int .i64 i :: .int .i64 (n + 1) :: rs) (rcl i m T (n + 1) true (va :: vb :: .int .i64 i :: .int .i64 (n + 1) :: rs)) rfl (.agg (va :: vb :: .int .i64 i :: .int .i64 (n + 1) :: rs).toArray) rfl rfl (fits_agg _) (by simp <;> omega) (splice5 (by simp <;> omega)) (msg_size (by simp <;> omega)) HM2.out ?_
  intro WA hO
  replace HO := hide hO
  clear hO
  refine hK.out _ _ (HO.out.cells 1 rfl) (fun hS4 => ?_)
  clear hK K
  try simp only [Act.put, List.getElem_toArray, List.getElem_cons_zero, List.getElem_cons_succ, List.setIfInBounds_toArray, List.set_cons_zero, List.set_cons_succ]
  refine wpAnyH_done (by kernel_rfl) ?_ _
  clear hS0
  go_wp2_with fail
  refine wp_region_held_drew (S := fun W => (∀ j, W.cell? ⟨b0, j, none⟩ = (rcl i m T (n + 1) true (va :: vb :: .int .i64 i :: .int .i64 (n + 1) :: rs) : List Value)[j]?) ∧ (∀ j, W.cell? ⟨b1, j, none⟩ = (va :: vb :: .int .i64 i :: .int .i64 (n + 1) :: rs : List Value)[j]?)) (by kernel_rfl) (⟨HO.out.drew.cells 0 rfl, HO.out.drew.cells 1 rfl⟩) (fun hS0 => ?_)
  replace HO := hide HO.out.drew
  refine wpAnyH_take (i := 0) (v := .agg (rcl i m T (n + 1) true (va :: vb :: .int .i64 i :: .int .i64 (n + 1) :: rs)).toArray) rfl (by kernel_rfl) (by kernel_rfl) (by kernel_rfl) (fun _ _ _ h => h) (yieldsIf_load rfl 46 (.tmp 2) rfl b0 0 52 46 (rcl i m T (n + 1) true (va :: vb :: .int .i64 i :: .int .i64 (n + 1) :: rs)) (rcl i m T (n + 1) true (va :: vb :: .int .i64 i :: .int .i64 (n + 1) :: rs)) _ (fun w hw => hw.1) (take_all (rcl_len (by simp <;> omega))) rfl Try.underlying46 rfl (rc_size (rcl_len (by simp <;> omega)))) (by assumption) ?_
  try simp only [Act.put, List.getElem_toArray, List.getElem_cons_zero, List.getElem_cons_succ, List.setIfInBounds_toArray, List.set_cons_zero, List.set_cons_succ]
  refine wpAnyH_take (i := 1) (v := ?vz1) rfl (by kernel_rfl) (by kernel_rfl) (by kernel_rfl) (fun _ _ _ h => h) (Or.inl ⟨by rfl, ?hyz1⟩) (by assumption) ?restz1
  case hyz1 => (intro w hSw; (try dsimp only at hSw); go_simp; first | done | (with_reducible rfl))
  try simp only [Act.put, List.getElem_toArray, List.getElem_cons_zero, List.getElem_cons_succ, List.setIfInBounds_toArray, List.set_cons_zero, List.set_cons_succ]
  refine wpAnyH_take (i := 2) (v := ?vz2) rfl (by kernel_rfl) (by kernel_rfl) (by kernel_rfl) (fun _ _ _ h => h) (Or.inl ⟨by rfl, ?hyz2⟩) (by assumption) ?restz2
  case hyz2 => (intro w hSw; (try dsimp only at hSw); go_simp; first | done | (with_reducible rfl))
  try simp only [Act.put, List.getElem_toArray, List.getElem_cons_zero, List.getElem_cons_succ, List.setIfInBounds_toArray, List.set_cons_zero, List.set_cons_succ]
  refine wpAnyH_take (i := 3) (v := .agg (va :: vb :: .int .i64 i :: .int .i64 (n + 1) :: rs).toArray) rfl (by kernel_rfl) (by kernel_rfl) (by kernel_rfl) (fun _ _ _ h => h) (yieldsIf_load rfl 41 (.tmp 3) rfl b1 0 47 41 (va :: vb :: .int .i64 i :: .int .i64 (n + 1) :: rs) (va :: vb :: .int .i64 i :: .int .i64 (n + 1) :: rs) _ (fun w hw => hw.2) (take_all (by simp <;> omega)) rfl Try.underlying41 rfl (msg_size (by simp <;> omega))) (by assumption) ?_
  try simp only [Act.put, List.getElem_toArray, List.getElem_cons_zero, List.getElem_cons_succ, List.setIfInBounds_toArray, List.set_cons_zero, List.set_cons_succ]
  refine wpAnyH_take (i := 4) (v := .agg (.int .i64 T :: va :: vb :: .int .i64 i :: .int .i64 (n + 1) :: rs).toArray) rfl (by kernel_rfl) (by kernel_rfl) (by kernel_rfl) (fun _ _ _ h => h) (yieldsIf_build rfl 59 _ rfl ([(0, .int .i64 T), (1, .agg (va :: vb :: .int .i64 i :: .int .i64 (n + 1) :: rs).toArray)]) (by first | (simp [Act.eval]; done) | (simp [Act.eval]; rfl)) (.int .i64 T :: va :: vb :: .int .i64 i :: .int .i64 (n + 1) :: rs).toArray (built_out T (va :: vb :: .int .i64 i :: .int .i64 (n + 1) :: rs) (by simp <;> omega))) (by assumption) ?_
  try simp only [Act.put, List.getElem_toArray, List.getElem_cons_zero, List.getElem_cons_succ, List.setIfInBounds_toArray, List.set_cons_zero, List.set_cons_succ]
  refine wpAnyH_ready (rs := [5]) (by kernel_rfl) (by simp) ?_
  refine AllReadyH.cons rfl (fun K hK => ?_) AllReadyH.nil
  refine step_store_own HO.out rfl 46 (.tmp 4) (.tmp 19) rfl 2 _ 0 _ _ (rcl i m T (n + 1) true (va :: vb :: .int .i64 i :: .int .i64 (n + 1) :: rs)) (rcl i m T (n + 1) true (va :: vb :: .int .i64 i :: .int .i64 (n + 1) :: rs)) rfl (.agg (rcl i m T (n + 1) true (va :: vb :: .int .i64 i :: .int .i64 (n + 1) :: rs)).toArray) rfl rfl (fits_agg _) (by rw [rcl_len (by simp <;> omega), zrc_len]; exact Nat.le_refl _) (splice_all (by rw [rcl_len (by simp <;> omega), zrc_len])) (rc_size (rcl_len (by simp <;> omega))) (rcl_ones HM2.out) ?_
  intro WA hO
  replace HO := hide hO
  clear hO
  refine hK.out _ _ (⟨HO.out.cells 0 rfl, HO.out.cells 1 rfl⟩) (fun hS5 => ?_)
  clear hK K
  try simp only [Act.put, List.getElem_toArray, List.getElem_cons_zero, List.getElem_cons_succ, List.setIfInBounds_toArray, List.set_cons_zero, List.set_cons_succ]
  refine wpAnyH_ready (rs := [6]) (by kernel_rfl) (by simp) ?_
  refine AllReadyH.cons rfl (fun K hK => ?_) AllReadyH.nil
  refine step_store_own HO.out rfl 59 (.tmp 5) (.tmp 23) rfl 3 _ 0 _ _ (.int .i64 T :: va :: vb :: .int .i64 i :: .int .i64 (n + 1) :: rs) (.int .i64 T :: va :: vb :: .int .i64 i :: .int .i64 (n + 1) :: rs) rfl (.agg (.int .i64 T :: va :: vb :: .int .i64 i :: .int .i64 (n + 1) :: rs).toArray) rfl rfl (fits_agg _) (by rw [zout_len]; simp <;> omega) (splice_all (by rw [zout_len]; simp <;> omega)) (out_size (by simp <;> omega)) (out_ones HM2.out) ?_
  intro WA hO
  replace HO := hide hO
  clear hO
  refine hK.out _ _ (⟨HO.out.cells 0 rfl, HO.out.cells 1 rfl⟩) (fun hS6 => ?_)
  clear hK K
  try simp only [Act.put, List.getElem_toArray, List.getElem_cons_zero, List.getElem_cons_succ, List.setIfInBounds_toArray, List.set_cons_zero, List.set_cons_succ]
  refine wpAnyH_done (by kernel_rfl) ?_ _
  clear hS0
  go_wp2_with fail
  refine bodyPost_ret (results_row_row rfl _ HO.out 2 3 _ _ _ _ _ _ _ _ rfl rfl rfl rfl Try.underlying46 rfl (rc_size (rcl_len (by simp <;> omega))) Try.underlying59 rfl (out_size (by simp <;> omega))) rfl ?_
  exact ⟨rfl, HO.out.below⟩
end Go.Proofs.Ytpbgelhjbfckcaa
