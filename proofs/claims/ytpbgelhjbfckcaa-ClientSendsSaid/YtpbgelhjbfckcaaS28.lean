/- ClientRetries: the plain lemmas; a set of integers in memory. -/
import Derived.Test.YtpbgelhjbfckcaaS05
import Derived.Maps.Views
import Derived.Test.YtpbgelhjbfckcaaS27
namespace Go.Proofs.Ytpbgelhjbfckcaa
open Go.ChangeMaps Go.ChangeShapes Go.WideShapes Go.ChangeAt Go.RowKit
open Go.Maps (Keyed)
set_option linter.unusedVariables false
set_option linter.unusedSimpArgs false

/-- The target behind j retries. -/
def tgt (T n : Int) (j : Nat) : Int := (T - 1 + j) % n + 1
theorem tgt_zero {T n : Int} (h1 : 1 ≤ T) (h2 : T ≤ n) : tgt T n 0 = T := by
  unfold tgt
  rw [Int.emod_eq_of_lt (by simp; omega) (by simp; omega)]
  simp
theorem tgt_succ (T n : Int) (j : Nat) (hn : 0 < n) : tgt T n j % n + 1 = tgt T n (j + 1) := by
  unfold tgt
  rw [Int.emod_add_emod]
  have : T - 1 + (j : Int) + 1 = T - 1 + ((j + 1 : Nat) : Int) := by push_cast; omega
  rw [this]
theorem tgt_ne (T n : Int) (i j : Nat) (hij : i < j) (hj : (j : Int) < n) (hn : n ≤ 5) : tgt T n (j + 1) ≠ tgt T n (i + 1) := by
  unfold tgt
  have h : n = 1 ∨ n = 2 ∨ n = 3 ∨ n = 4 ∨ n = 5 := by omega
  rcases h with rfl | rfl | rfl | rfl | rfl <;> push_cast <;> omega
/-- The targets that have been seen. -/
def seenL (T n : Int) (j : Nat) : List Int := (List.range j).map (fun i => tgt T n (i + 1))
theorem seenL_succ (T n : Int) (j : Nat) : seenL T n (j + 1) = seenL T n j ++ [tgt T n (j + 1)] := by unfold seenL; rw [List.range_succ, List.map_append]; rfl
theorem seenL_not (T n : Int) (j : Nat) (hj : (j : Int) < n) (hn : n ≤ 5) : tgt T n (j + 1) ∉ seenL T n j := by
  unfold seenL
  intro h
  obtain ⟨i, hi, e⟩ := List.mem_map.1 h
  exact tgt_ne T n i j (List.mem_range.1 hi) hj hn e.symm
def setD (l : List Int) : DataW Unit := l.foldl (fun D t => D.put (.int .i64 t) (.lit (.bool true))) (.map [])
theorem setD_snoc (l : List Int) (t : Int) : setD (l ++ [t]) = (setD l).put (.int .i64 t) (.lit (.bool true)) := by unfold setD; rw [List.foldl_append]; rfl
theorem setD_acc (t : Int) (z : DataW Unit) : ∀ (l : List Int) (D : DataW Unit), t ∉ l → D.atKey (.int .i64 t) z = z → (l.foldl (fun D t => D.put (.int .i64 t) (.lit (.bool true))) D).atKey (.int .i64 t) z = z
  | [], D, _, h => h
  | s :: l, D, hm, h => setD_acc t z l _ (fun hh => hm (by simp [hh])) (by
    rw [Go.Maps.atKey_put_other (by intro e; injection e with _ e; exact hm (by simp [e]))]
    exact h)
theorem setD_not (t : Int) (z : DataW Unit) (l : List Int) (h : t ∉ l) : (setD l).atKey (.int .i64 t) z = z := setD_acc t z l _ h rfl
/-- Block mb is the set of the integers l. -/
def SetIn (w : World) (mb : Nat) (l : List Int) : Prop := w.ownsMap (H := Unit) Try.prog 3 (plainElem Try.prog 4) mb l.length (setD l)
theorem SetIn.touch {w w' : World} {mb : Nat} {l : List Int} {T : List Nat} (h : SetIn w mb l) (k : Touch T w w') (hm : mb ∉ T) : SetIn w' mb l := by
  obtain ⟨es, clock, hb, F, hs, hD⟩ := h
  have hlt : mb < w.heap.size := (Array.getElem?_eq_some_iff.1 hb).1
  exact ⟨es, clock, (k.block mb hlt hm).trans hb, F, hs, hD⟩
theorem SetIn.step {w w' : World} {mb : Nat} {l : List Int} (h : SetIn w mb l) (k : Below w.heap.size w w') : SetIn w' mb l := h.touch (Touch.below k []) (by simp)
theorem SetIn.ne_blk {w : World} {mb b : Nat} {l : List Int} {t : TypeId} {cs : Array Value} (h : SetIn w mb l) (hb : Blk w b t cs) : b ≠ mb := by
  rintro rfl
  obtain ⟨es, clock, hb2, _⟩ := h
  unfold Blk at hb
  rw [hb] at hb2
  cases hb2
theorem set_made (w : World) : SetIn (w.alloc (.map #[] 0)) w.heap.size [] := Go.World.ownsMap_made w Try.prog 3 (plainElem (H := Unit) Try.prog 4)
set_option maxRecDepth 100000 in
theorem SetIn.look {w : World} {mb : Nat} {l : List Int} (h : SetIn w mb l) (t : Int) (hw : (Lit.int .i64 t).wf = true) (ht : t ∉ l) : (Instr.lookup 62 (.map (some mb)) (.int .i64 t) false).run Try.prog w = .ok (.bool false) w := by
  have hz : (zeroValue 4).run Try.prog w = .ok (.bool false) w := by kernel_rfl
  obtain ⟨v, ps, hrun, hv⟩ := Go.World.ownsMap.lookup h (Go.Maps.int_keyed Try.underlying3) Try.underlying62 hz (plainElem_bool Try.underlying4 false) (key := .int .i64 t) (kl := .int .i64 t) (Go.Maps.keyOf_int_mk Try.underlying3 hw)
  rw [setD_not t _ l ht] at hv
  rw [hrun]
  have : v = .bool false := by
    unfold plainElem at hv
    rw [Try.underlying4] at hv
    cases v <;> simp at hv
    rw [hv.1]
  rw [this]
theorem wpList_makeMap_n {P : Program} {w : World} {ops : Array Oper} {rest : List Oper} {o : Oper} {a : Act} {Q : Exit → Act → World → Prop} (hgd : o.guard = none) (t : TypeId) (ho : o.op = .makeMap t none)
    (h : ∀ w' mb, mb = w.heap.size → w' = w.alloc (.map #[] 0) → wpList P ops Q rest (a.put o.dst (.map (some mb))) w') : wpList P ops Q (o :: rest) a w := wpList_plain hgd fun K hK => by
  unfold Oper.wp execOp
  simp only [ho, Option.map_none, Sem.run_bind, run_makeMap, Result.andThen_ok]
  exact hK _ _ (h _ _ rfl rfl)
set_option maxRecDepth 100000 in
theorem wpList_put_set {w : World} {ops : Array Oper} {rest : List Oper} {o : Oper} {a : Act} {Q : Exit → Act → World → Prop} {mb : Nat} {l : List Int} (h : SetIn w mb l) (hl : l.length < maxLen) (hgd : o.guard = none) (m x v : Operand) (hop : o.op = Op.mapUpdate 62 m x v)
    (t : Int) (hw : (Lit.int .i64 t).wf = true) (hm : a.eval m = .map (some mb)) (hx : a.eval x = .int .i64 t) (hv : a.eval v = .bool true)
    (hK : ∀ w', SetIn w' mb (l ++ [t]) → Touch [mb] w w' → wpList Try.prog ops Q rest (a.put o.dst undef) w') : wpList Try.prog ops Q (o :: rest) a w :=
  wpList_mapUpdate_in w hgd m x v 62 hop 3 4 (Go.Maps.int_keyed Try.underlying3) Try.underlying62 (plainElem Try.prog 4) mb l.length (setD l) hm h hl (.int .i64 t) (.bool true) (.int .i64 t) hx hv (Go.Maps.keyOf_int_mk Try.underlying3 hw) (.lit (.bool true)) [] (plainElem_bool Try.underlying4 true)
    fun w' h1 h2 => hK w' (by unfold SetIn; rw [setD_snoc, List.length_append]; exact h1) (Touch.map h2)
end Go.Proofs.Ytpbgelhjbfckcaa
/- ClientRetries: the walk. -/
namespace Go.Proofs.Ytpbgelhjbfckcaa
open Go.ChangeShapes Go.WideShapes Go.ChangeAt Go.RowKit
set_option linter.unusedVariables false
set_option linter.unusedSimpArgs false

theorem at_makeMap (t : TypeId) {P : Program} {w : World} {ops : Array Oper} {rest : List Oper} {d : Option Tmp} {ty : TypeId} {p : String} {af : Array Edge} {g : Option (Nat × Bool)} {a : Act} {Q : Exit → Act → World → Prop}
    (h : wpList P ops Q ({ dst := d, op := .makeMap t none, type := ty, pos := p, after := af, guard := g } :: rest) a w) : wpList P ops Q ({ dst := d, op := .makeMap t none, type := ty, pos := p, after := af, guard := g } :: rest) a w := h
theorem at_mapUpdate (t : TypeId) {m x v : Operand} {P : Program} {w : World} {ops : Array Oper} {rest : List Oper} {d : Option Tmp} {ty : TypeId} {p : String} {af : Array Edge} {g : Option (Nat × Bool)} {a : Act} {Q : Exit → Act → World → Prop}
    (h : wpList P ops Q ({ dst := d, op := .mapUpdate t m x v, type := ty, pos := p, after := af, guard := g } :: rest) a w) : wpList P ops Q ({ dst := d, op := .mapUpdate t m x v, type := ty, pos := p, after := af, guard := g } :: rest) a w := h
theorem cStep_machines (S : CS) (x : OpV) : (cStep S x).1.machines = S.machines := by
  unfold cStep
  split
  · show (cRequest S x.group x.body).st.machines = _
    unfold cRequest opened
    repeat' split
    all_goals rfl
  · split
    · show (cCall S x.group x.value).st.machines = _
      unfold cCall opened
      repeat' split
      all_goals rfl
    · split
      · show (cRetry S).st.machines = _
        unfold cRetry turned
        split
        all_goals rfl
      · split
        · show (cReceive S (repM x S.number) x.frm).st.machines = _
          unfold cReceive cAnswered
          repeat' split
          all_goals rfl
        · rfl
theorem cRun_machines (l : List OpV) : ∀ S : CS, (cRun S l).machines = S.machines := by
  induction l with
  | nil => intro S; rfl
  | cons x l ih => intro S; exact (ih (cStep S x).1).trans (cStep_machines S x)
theorem Cl.offset {w w' : World} {g mb : Nat} {S : CS} {q : Value} {l : List Int} (h : Cl w g S q) (hs : SetIn w mb l) (k : Touch [mb] w w') : Cl w' g S q :=
  h.far_of k (by simpa using hs.ne_blk h.blk) (fun c hc => by
    cases ho : S.opened with
    | none => rw [h.shut ho] at hc; cases hc
    | some cs =>
      obtain ⟨b', _, h2, h3⟩ := h.opened cs ho
      rw [h2] at hc
      injection hc with hc; injection hc with hc; injection hc with hc
      subst hc
      simpa using hs.ne_blk h3)
/-- Behind j retries. -/
def at_ (D : CS) (j : Nat) : CS := { D with target := tgt D.target D.machines j }
theorem at_zero {D : CS} (h : 1 ≤ D.target ∧ D.target ≤ D.machines) : at_ D 0 = D := by unfold at_; rw [tgt_zero h.1 h.2]
theorem at_retry {D : CS} {cs : List Value} (ho : D.opened = some cs) (h : 0 < D.machines) (j : Nat) : cRetry (at_ D j) = ⟨at_ D (j + 1), .int .i64 (tgt D.target D.machines (j + 1)) :: cs, true⟩ := by
  unfold cRetry
  have : (at_ D j).opened = some cs := ho
  rw [this]
  show (⟨turned (at_ D j), .int .i64 (turned (at_ D j)).target :: cs, true⟩ : RetV) = _
  have e : turned (at_ D j) = at_ D (j + 1) := by
    unfold turned at_
    dsimp only
    rw [tgt_succ _ _ _ h]
  rw [e]
  rfl
theorem tgt_wf (T n : Int) (j : Nat) (h : 0 < n) (hn : n ≤ 16) : (Lit.int .i64 (tgt T n j)).wf = true := by
  have h1 := Int.emod_nonneg (T - 1 + j) (show n ≠ 0 by omega)
  have h2 := Int.emod_lt_of_pos (T - 1 + j) h
  unfold tgt
  simp [Lit.wf, IntKind.min, IntKind.max, IntKind.signed, IntKind.bits]
  omega
set_option maxRecDepth 100000 in
set_option maxHeartbeats 8000000 in
theorem walkClientRetries (W : World) (a : Int) (wa : (Lit.int .u8 a).wf = true) (b : Int) (wb : (Lit.int .u8 b).wf = true) (v : Value) (l : List OpV) (h : OpsIn W v l) :
    Calls Try.prog 5 #[.int .u8 a, .int .u8 b, v] W fun e w' => e = .returned (.bool true) ∧ Below W.heap.size W w' := by
  obtain ⟨Al, nl, cl, rfl, hnl, hnc, hcm⟩ := h.form
  have H := hide h
  have HWA := hide (wf_u8 wa)
  have HWB := hide (wf_u8 wb)
  have HO := hide (Own.nil W [] (by simp))
  clear h wa wb
  go_enter Try.func5, Try.ntmps5
  go_wp2_with fail
  refine (few_c _ l 30 _ H.out).mono ?_
  rintro e w1 ⟨x1, rfl, hf1, hb1⟩
  replace HO := hide (HO.out.step hb1)
  have HF1 := hide hf1
  clear hb1 hf1
  cases x1 with
  | false =>
    go_wp2_with fail
    refine (awake_c _).mono ?_
    rintro e wz ⟨rfl, hbz⟩
    replace HO := hide (HO.out.step hbz)
    clear hbz
    go_wp2_with fail
    go_ret
    exact ⟨rfl, HO.out.below⟩
  | true =>
    have HLN : Hid (l.length ≤ 1000) := hide (by have := HF1.out rfl; omega)
    clear HF1
    go_wp2_with fail
    refine (run_c a b _ l _ HWA.out HWB.out (H.out.step HO.out.below) HLN.out).mono ?_
    rintro e w3 ⟨g, q, rfl, hc, hgn, hb⟩
    have HGN := hide (Nat.le_trans HO.out.size hgn)
    replace HO := hide (HO.out.step hb)
    have HC := hide hc
    have HAD := hide (cRun_asks l _ (asks_new (1 + a % 8) (1 + b % 5)))
    have HDM : Hid ((cRun (csNew (1 + a % 8) (1 + b % 5)) l).machines = 1 + b % 5) := hide (cRun_machines l _)
    clear hc hgn hb
    generalize cRun (csNew (1 + a % 8) (1 + b % 5)) l = D at *
    have HDL := hide HAD.out.rlen
    have HDO := hide HAD.out.rones
    go_wp2_with (first
      | ((with_reducible refine at_alloc 46 ?_); refine wpList_alloc_own_t HO.out rfl 46 rfl (zrc) zrc_info ?_; intro WA b8 hO hbl; replace HC := hide (HC.out.step hbl); replace HO := hide hO; clear hO hbl)
      | ((with_reducible refine at_store 46 (.tmp 8) ?_); refine wpList_store_own_t HO.out rfl 46 (.tmp 8) _ rfl 0 _ 0 _ _ (rC D) (rC D) rfl (.agg (rC D).toArray) rfl rfl (fits_agg _) (by rw [HDL.out, zrc_len]; exact Nat.le_refl _) (splice_all (by rw [HDL.out, zrc_len])) (rc_size HDL.out) HDO.out ?_; intro WA hO hbk htc; replace HC := hide (HC.out.put hbk (by decide) htc); replace HO := hide hO; have k8 := rs_cells (hO.cells 0 rfl); refine Hid.out ?_; clear hO hbk htc))
    refine hide ?_
    cases hop : D.opened with
    | none =>
      have HRT : Hid (∀ (X : World), Cl X g D q → Calls Try.prog 18 #[.pointer (some ⟨g, 0, none⟩)] X (RetR X g ⟨D, zout, false⟩)) := hide (fun X hX => by
        have := retry_c g D q X hX
        unfold cRetry at this
        rw [hop] at this
        exact this)
      rw [hop] at k8
      go_wp2_with fail
      refine (HRT.out _ HC.out).mono ?_
      rintro e w5 ⟨rfl, ⟨q2, hc⟩, ht⟩
      replace HO := hide (HO.out.callN ht ⟨HGN.out, HO.out.ne_cl HC.out (by simp)⟩)
      replace HC := hide hc
      clear hc ht k8
      go_wp2_with (first
        | ((with_reducible refine at_alloc 59 ?_); refine wpList_alloc_own_t HO.out rfl 59 rfl (zout) zout_info ?_; intro WA b10 hO hbl; replace HC := hide (HC.out.step hbl); replace HO := hide hO; clear hO hbl)
        | ((with_reducible refine at_store 59 (.tmp 10) ?_); refine wpList_store_own_t HO.out rfl 59 (.tmp 10) _ rfl 1 _ 0 _ _ (zout) (zout) rfl (.agg (zout).toArray) rfl rfl (fits_agg _) (by rw [zout_len]; exact Nat.le_refl _) (splice_all rfl) (out_size zout_len) zout_ones ?_; intro WA hO hbk htc; replace HC := hide (HC.out.put hbk (by decide) htc); replace HO := hide hO; clear hO hbk htc))
      refine (awake_c _).mono ?_
      rintro e wz ⟨rfl, hbz⟩
      replace HO := hide (HO.out.step hbz)
      clear hbz
      go_wp2_with fail
      go_ret
      exact ⟨rfl, HO.out.below⟩
    | some cs =>
      have HM1 : Hid (0 < D.machines ∧ D.machines ≤ 5) := hide (by have := HDM.out; omega)
      have HT0 := hide HC.out.ok.target
      have HOPN := hide hop
      have HCS : Hid ((openOf D).1 = cs) := hide (by unfold openOf; rw [hop])
      have HSM := hide HAD.out.same
      have HCL := hide HAD.out.open_len.1
      have HCO := hide HAD.out.open_len.2
      rw [hop, HCS.out] at k8
      rw [HCS.out] at HSM HCL HCO
      have HDE : Hid (rC D = rcl D.id D.machines D.target D.number true cs) := hide (by unfold rC; rw [hop, HCS.out]; rfl)
      rw [HDE.out] at HO
      rw [← at_zero HT0.out] at HC
      have e2 : b.tmod 5 = b % 5 := Int.tmod_eq_emod_of_nonneg HWB.out.1
      obtain ⟨n, hn⟩ : ∃ n, b % 5 = n := ⟨_, rfl⟩
      rw [hn] at e2
      have hn1 : 0 ≤ n ∧ n ≤ 4 := by omega
      have HMN : Hid (D.machines = 1 + n) := hide (by rw [HDM.out, hn])
      clear hop hn
      go_wp2_with (first
        | ((with_reducible refine at_makeMap 62 ?_); refine wpList_makeMap_n rfl 62 rfl ?_; intro WM mb hmb hWM; have HS := hide (show SetIn WM mb [] by rw [hWM, hmb]; exact set_made _); have HMB := hide (show W.heap.size ≤ mb by rw [hmb]; exact HO.out.size); replace HO := hide (show Own W [] _ WM by rw [hWM]; exact HO.out.alloc _); replace HC := hide (HC.out.step (show Below _ _ WM by rw [hWM]; exact (Below.refl _ _).alloc (Nat.le_refl _) _)); clear hmb hWM))
      clear k8
      go_loopw [47] (fun v47 wr => ∃ (j : Nat) (q' : Value), v47 = .int .i64 j ∧ (j : Int) ≤ 1 + n ∧ Own W [] [(b8, 46, rcl D.id D.machines D.target D.number true cs)] wr ∧ Cl wr g (at_ D j) q' ∧ SetIn wr mb (seenL D.target D.machines j)) (fun v47 _ => (1 + n).toNat - (intOf v47).toNat)
      case atStart => exact ⟨0, q, rfl, by omega, HO.out, HC.out, HS.out⟩
      case round =>
        obtain ⟨j, q', rfl, hj, ho, hc, hs⟩ := hrel
        replace HO := hide ho
        replace HC := hide hc
        replace HS := hide hs
        clear ho hc hs
        by_cases hlt : (j : Int) < 1 + n
        · have HLT := hide hlt
          obtain ⟨T', hT'⟩ : ∃ T', T' = tgt D.target D.machines (j + 1) := ⟨_, rfl⟩
          have HTE := hide hT'
          have HWF : Hid ((Lit.int .i64 T').wf = true) := hide (by rw [hT']; exact tgt_wf _ _ _ HM1.out.1 (by have := HM1.out; omega))
          have HNI : Hid (T' ∉ seenL D.target D.machines j) := hide (by rw [hT']; exact seenL_not _ _ _ (by rw [HMN.out]; exact hlt) HM1.out.2)
          have HSL : Hid ((seenL D.target D.machines j).length < maxLen) := hide (by unfold seenL maxLen; rw [List.length_map, List.length_range]; omega)
          have HRT : Hid (∀ (X : World), Cl X g (at_ D j) q' → Calls Try.prog 18 #[.pointer (some ⟨g, 0, none⟩)] X (RetR X g ⟨at_ D (j + 1), .int .i64 T' :: cs, true⟩)) := hide (fun X hX => by
            have := retry_c g (at_ D j) q' X hX
            rw [at_retry HOPN.out HM1.out.1 j, ← hT'] at this
            exact this)
          have HOL : Hid ((Value.int .i64 T' :: cs).length = 48) := hide (by rw [List.length_cons, HCL.out])
          have HOO : Hid ((Value.int .i64 T' :: cs).all (·.oneCell') = true) := hide (out_ones HCO.out)
          clear hT'
          go_wp2_with fail
          refine (HRT.out _ HC.out).mono ?_
          rintro e w5 ⟨rfl, ⟨q2, hc⟩, ht⟩
          replace HS := hide (HS.out.touch ht (by simpa using (HS.out.ne_blk HC.out.blk).symm))
          replace HO := hide (HO.out.callN ht ⟨HGN.out, HO.out.ne_cl HC.out (by simp)⟩)
          replace HC := hide hc
          clear hc ht HRT
          go_wp2_with (first
            | ((with_reducible refine at_alloc 59 ?_); refine wpList_alloc_own_t HO.out rfl 59 rfl zout zout_info ?_; intro WA b13 hO hbl; replace HC := hide (HC.out.step hbl); replace HS := hide (HS.out.step hbl); replace HO := hide hO; clear hO hbl)
            | ((with_reducible refine at_store 59 (.tmp 13) ?_); refine wpList_store_own_t HO.out rfl 59 (.tmp 13) _ rfl 1 _ 0 _ _ (.int .i64 T' :: cs) (.int .i64 T' :: cs) rfl (.agg (Value.int .i64 T' :: cs).toArray) rfl rfl (fits_agg _) (by rw [HOL.out, zout_len]; exact Nat.le_refl _) (splice_all (by rw [HOL.out, zout_len])) (out_size HOL.out) HOO.out ?_; intro WA hO hbk htc; replace HS := hide (HS.out.touch htc (by simpa using (HS.out.ne_blk hbk).symm)); replace HC := hide (HC.out.put hbk (by decide) htc); replace HO := hide hO; have k13 := hO.cells 1 rfl; have hlk := HS.out.look T' HWF.out HNI.out; clear hO hbk htc)
            | ((with_reducible refine at_load 41 (.tmp 63) ?_); refine wpList_load_own_g HO.out rfl 41 (.tmp 63) rfl 1 _ 1 47 _ _ (cs) _ rfl (by show List.take 47 cs = cs; rw [List.take_of_length_le (by rw [HCL.out]; exact Nat.le_refl _)]) rfl Try.underlying41 rfl (msg_size HCL.out) ?_)
            | ((with_reducible refine at_load 41 (.tmp 65) ?_); refine wpList_load_own_g HO.out rfl 41 (.tmp 65) rfl 0 _ 5 47 _ _ (cs) _ rfl (take5 HCL.out) rfl Try.underlying41 rfl (msg_size HCL.out) ?_))
          refine (HSM.out _).mono ?_
          rintro e w6 ⟨rfl, hb⟩
          replace HS := hide (HS.out.step hb)
          replace HO := hide (HO.out.step hb)
          replace HC := hide (HC.out.step hb)
          clear hb hlk
          replace k13 := HO.out.cells 1 rfl
          go_wp2_with (first
            | ((with_reducible refine at_mapUpdate 62 ?_); refine wpList_put_set HS.out HSL.out rfl _ _ _ rfl T' HWF.out rfl rfl rfl ?_; intro WU hs htm; replace HC := hide (HC.out.offset HS.out htm); replace HO := hide (HO.out.callN htm ⟨HMB.out, fun e he => HS.out.ne_blk (HO.out.has e he).1⟩); replace HS := hide hs; clear hs htm))
          go_roundw
          case rel =>
            refine ⟨j + 1, q2, by go_num, by have := HLT.out; omega, HO.out.sub (List.sublist_append_left _ _), HC.out, ?_⟩
            rw [seenL_succ, ← HTE.out]
            exact HS.out
          case measure => have := HLT.out; simp [intOf]; omega
        · have hge : 1 + n ≤ (j : Int) := by omega
          clear hlt
          go_wp2_with fail
          refine (awake_c _).mono ?_
          rintro e wz ⟨rfl, hbz⟩
          replace HO := hide (HO.out.step hbz)
          clear hbz
          go_wp2_with fail
          go_ret
          exact ⟨rfl, HO.out.below⟩
end Go.Proofs.Ytpbgelhjbfckcaa
