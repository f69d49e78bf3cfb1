/- What a message's fields say of it: zero, valid. -/
import Derived.Test.YtpbgelhjbfckcaaS18
import Derived.Test.YtpbgelhjbfckcaaS13
namespace Go.Proofs.Ytpbgelhjbfckcaa
open Go.ChangeMaps Go.ChangeShapes Go.WideShapes Go.ChangeAt Go.RowKit
set_option maxRecDepth 100000
set_option linter.unusedVariables false
set_option linter.unusedSimpArgs false

def I64 (x : Int) : Prop := -9223372036854775808 ≤ x ∧ x ≤ 9223372036854775807
def iOffs : List Nat := [0, 1, 2, 3, 4, 6, 7, 8, 9, 10, 13, 14, 15, 16, 17, 18, 19, 20, 21, 22, 23, 24, 25, 34, 35, 36, 37, 38, 39, 40, 41, 44]
def sOffs : List Nat := [11, 12, 26, 27, 28, 29, 30, 31, 32, 33, 43]
/-- The cells of a message. -/
structure MsgT (cs : List Value) : Prop where
  len : cs.length = 47
  ints : ∀ o ∈ iOffs, ∃ x, cs[o]? = some (.int .i64 x)
  kind : ∀ x, cs[0]? = some (.int .i64 x) → I64 x
  slices : ∀ o ∈ sOffs, ∃ A n c, cs[o]? = some (.slice A n c)
  body : ∃ s, cs[5]? = some (.string s)
  data : ∃ s, cs[45]? = some (.string s)
  gr : ∃ x, cs[42]? = some (.bool x)
  dn : ∃ x, cs[46]? = some (.bool x)
def strAt (cs : List Value) (o : Nat) : ByteArray := match cs[o]? with | some (.string s) => s | _ => ⟨#[]⟩
def boolAt (cs : List Value) (o : Nat) : Bool := match cs[o]? with | some (.bool x) => x | _ => false
def slAt (cs : List Value) (o : Nat) : Value := match cs[o]? with | some (.slice A n c) => .slice A n c | _ => .slice none 0 0
theorem numAt_eq {cs : List Value} {o : Nat} {x : Int} (h : cs[o]? = some (.int .i64 x)) : numAt cs o = x := by unfold numAt; rw [h]
theorem lenAt_eq {cs : List Value} {o : Nat} {A : Option Addr} {n c : Nat} (h : cs[o]? = some (.slice A n c)) : lenAt cs o = n := by unfold lenAt; rw [h]
theorem strAt_eq {cs : List Value} {o : Nat} {s : ByteArray} (h : cs[o]? = some (.string s)) : strAt cs o = s := by unfold strAt; rw [h]
theorem boolAt_eq {cs : List Value} {o : Nat} {x : Bool} (h : cs[o]? = some (.bool x)) : boolAt cs o = x := by unfold boolAt; rw [h]
theorem slAt_eq {cs : List Value} {o : Nat} {A : Option Addr} {n c : Nat} (h : cs[o]? = some (.slice A n c)) : slAt cs o = .slice A n c := by unfold slAt; rw [h]
def zF (cs : List Value) (k : Nat) : Bool :=
  match k with
  | 0 => decide (numAt cs 1 = 0)
  | 1 => decide (numAt cs 2 = 0)
  | 2 => decide (numAt cs 3 = 0)
  | 3 => decide (numAt cs 4 = 0)
  | 4 => decide (numAt cs 6 = 0)
  | 5 => decide (numAt cs 7 = 0)
  | 6 => decide (numAt cs 8 = 0)
  | 7 => decide ((strAt cs 5).size = 0)
  | 8 => decide (numAt cs 17 = 0)
  | 9 => zeroP cs [9, 10] [11, 12]
  | 10 => zeroP cs [13, 14, 15] [] && decide (numAt cs 16 = 0)
  | 11 => zeroP cs [] [33]
  | 12 => zeroP cs [18, 19, 20, 21, 22, 23, 24, 25] [26, 27, 28, 29, 30, 31, 32]
  | _ => gmZ [numAt cs 34, numAt cs 35, numAt cs 36, numAt cs 37, numAt cs 38, numAt cs 39, numAt cs 40, numAt cs 41, numAt cs 44, (lenAt cs 43 : Int), ((strAt cs 45).size : Int)] (boolAt cs 42) (boolAt cs 46)
def inB (x lo hi : Int) : Bool := decide (lo ≤ x) && decide (x ≤ hi)
def vF (cs : List Value) (ml : List Int) (k : Nat) : Bool :=
  match k with
  | 0 => inB (numAt cs 1) 0 8
  | 1 => inB (numAt cs 2) 1 8
  | 2 => inB (numAt cs 3) 1 9223372036854775807
  | 3 => inB (numAt cs 4) 0 17
  | 4 => inB (numAt cs 6) 0 9223372036854775807
  | 5 => inB (numAt cs 7) 1 9223372036854775807
  | 6 => inB (numAt cs 8) 1 9223372036854775807
  | 7 => decide ((strAt cs 5).size ≤ 4096)
  | 10 => uOk (numAt cs 13) (numAt cs 14) (numAt cs 15)
  | 11 => incr ml
  | _ => true
/-- A call of the function enters it. -/
def Ent (f : FuncId) : Prop := ∀ args w, (callFunc f args).run Try.prog w = .ok (.enter f args) w
theorem ent_any : Ent 70 := enters Try.func70 (by kernel_rfl) (by kernel_rfl)
theorem ent_n3 : Ent 90 := enters Try.func90 (by kernel_rfl) (by kernel_rfl)
theorem ent_n4 : Ent 91 := enters Try.func91 (by kernel_rfl) (by kernel_rfl)
theorem ent_p3 : Ent 86 := enters Try.func86 (by kernel_rfl) (by kernel_rfl)
theorem ent_f3 : Ent 56 := enters Try.func56 (by kernel_rfl) (by kernel_rfl)
theorem ent_f4 : Ent 57 := enters Try.func57 (by kernel_rfl) (by kernel_rfl)
theorem ent_f5 : Ent 58 := enters Try.func58 (by kernel_rfl) (by kernel_rfl)
theorem ent_f8 : Ent 65 := enters Try.func65 (by kernel_rfl) (by kernel_rfl)
theorem ent_f9 : Ent 66 := enters Try.func66 (by kernel_rfl) (by kernel_rfl)
theorem ent_f12 : Ent 69 := enters Try.func69 (by kernel_rfl) (by kernel_rfl)
theorem ent_f15 : Ent 75 := enters Try.func75 (by kernel_rfl) (by kernel_rfl)
/-- What a function's call says. -/
def Says (w : World) (f : FuncId) (args : List Value) (x : Bool) : Prop := Ent f ∧ Calls Try.prog f args.toArray w fun e w' => e = .returned (.bool x) ∧ Below w.heap.size w w'
def FieldOf (w : World) (v : Value) (z o : Bool) : Prop := ∃ fw fr fz fo cw cr cz co, v = .agg (fv fw fr fz fo cw cr cz co).toArray ∧ Says w fz cz z ∧ Says w fo co o
theorem Says.of {w : World} {f : FuncId} {args : List Value} {a : Array Value} {x : Bool} (he : Ent f) (ha : a = args.toArray) (h : Calls Try.prog f a w fun e w' => e = .returned (.bool x) ∧ w = w') : Says w f args x := by
  subst ha
  exact ⟨he, h.mono fun e w' h => ⟨h.1, h.2 ▸ Below.refl _ _⟩⟩
theorem says_any (w : World) : Says w 70 [] true := Says.of ent_any rfl (any_c w)
section
variable {w : World} {L : LB} {b bm : Nat} {cs : List Value}
theorem blk_cell0 {g : Nat} {t : TypeId} {v : Value} (hL : ∀ e ∈ L, Blk w e.1 e.2.1 e.2.2.toArray) (h : (g, t, [v]) ∈ L) : w.cell? ⟨g, 0, none⟩ = some v := (hL _ h).cell 0
theorem PtrL.ptrs {t : TypeId} {offs : List Nat} {v : Value} (hL : ∀ e ∈ L, Blk w e.1 e.2.1 e.2.2.toArray) (h : PtrL L t b offs v) (hs : offs.length ≤ 100) : Ptrs w v b offs := by
  rcases h with ⟨rfl, rfl⟩ | ⟨g, rfl, hm⟩
  · exact Ptrs.nil w b
  · refine ⟨_, _, rfl, Nat.le_refl _, by unfold maxLen; omega, fun _ => ⟨g, 0, rfl, fun i hi => ?_⟩⟩
    have h1 := (hL _ hm).cell i
    rw [Nat.zero_add, h1]
    simp [ptrL, hi]
theorem num_field {o : Nat} {lo hi x : Int} {v : Value} (hL : ∀ e ∈ L, Blk w e.1 e.2.1 e.2.2.toArray) (h : NumF L b o lo hi v) (hx : w.cell? ⟨b, o, none⟩ = some (.int .i64 x)) : FieldOf w v (decide (x = 0)) (inB x lo hi) := by
  obtain ⟨bp, bl, bh, rfl, h1, h2, h3⟩ := h
  exact ⟨_, _, _, _, _, _, _, _, rfl, Says.of ent_n3 rfl (nzero_c bp b o x w (blk_cell0 hL h1) hx), ent_n4, nvalid_c bp bl bh b o x lo hi w (blk_cell0 hL h1) hx (blk_cell0 hL h2) (blk_cell0 hL h3)⟩
theorem part_zero {ns ls : List Nat} {bn bl : Nat} (hL : ∀ e ∈ L, Blk w e.1 e.2.1 e.2.2.toArray) (h : PartB L b ns ls bn bl) (hc : ∀ o, w.cell? ⟨b, o, none⟩ = cs[o]?) (hT : MsgT cs) (h1 : ns.length ≤ 100) (h2 : ls.length ≤ 100) (hn : ∀ o ∈ ns, o ∈ iOffs) (hl : ∀ o ∈ ls, o ∈ sOffs) :
    Calls Try.prog 86 #[at0 bn, at0 bl] w fun e w' => e = .returned (.bool (zeroP cs ns ls)) ∧ w = w' := by
  obtain ⟨vn, vl, q1, q2, q3, q4⟩ := h
  exact pzero_c bn bl b vn vl ns ls cs w (blk_cell0 hL q1) (blk_cell0 hL q2) (q3.ptrs hL h1) (q4.ptrs hL h2) hc (fun o ho => hT.ints o (hn o ho)) (fun o ho => hT.slices o (hl o ho))
/-- Of each field: whether it is zero, whether it is valid. -/
theorem field_at {ml : List Int} {k : Nat} {v : Value} (hk : k < 14) (h : FValI L b bm k v) (hL : ∀ e ∈ L, Blk w e.1 e.2.1 e.2.2.toArray) (hbm : (bm, 72, [at0 b]) ∈ L) (hc : ∀ o, w.cell? ⟨b, o, none⟩ = cs[o]?) (hT : MsgT cs) (hm : Li w (slAt cs 33) ml) : FieldOf w v (zF cs k) (vF cs ml k) := by
  have hb := blk_cell0 hL hbm
  have num : ∀ (o : Nat) (lo hi : Int), o ∈ iOffs → NumF L b o lo hi v → FieldOf w v (decide (numAt cs o = 0)) (inB (numAt cs o) lo hi) := fun o lo hi ho hf => by
    obtain ⟨x, hx⟩ := hT.ints o ho
    rw [numAt_eq hx]
    exact num_field hL hf ((hc o).trans hx)
  have : k = 0 ∨ k = 1 ∨ k = 2 ∨ k = 3 ∨ k = 4 ∨ k = 5 ∨ k = 6 ∨ k = 7 ∨ k = 8 ∨ k = 9 ∨ k = 10 ∨ k = 11 ∨ k = 12 ∨ k = 13 := by omega
  rcases this with rfl | rfl | rfl | rfl | rfl | rfl | rfl | rfl | rfl | rfl | rfl | rfl | rfl | rfl
  · exact num 1 0 8 (by decide) h
  · exact num 2 1 8 (by decide) h
  · exact num 3 1 9223372036854775807 (by decide) h
  · exact num 4 0 17 (by decide) h
  · exact num 6 0 9223372036854775807 (by decide) h
  · exact num 7 1 9223372036854775807 (by decide) h
  · exact num 8 1 9223372036854775807 (by decide) h
  · obtain ⟨s, hs⟩ := hT.body
    refine ⟨_, _, _, _, _, _, _, _, h, ?_, ?_⟩
    · show Says w _ _ (decide ((strAt cs 5).size = 0))
      rw [strAt_eq hs]
      exact Says.of ent_f8 rfl (bzero_c bm b s w hb ((hc 5).trans hs))
    · show Says w _ _ (decide ((strAt cs 5).size ≤ 4096))
      rw [strAt_eq hs]
      exact Says.of ent_f9 rfl (bvalid_c bm b s w hb ((hc 5).trans hs))
  · obtain ⟨x, hx⟩ := hT.ints 17 (by decide)
    refine ⟨_, _, _, _, _, _, _, _, h, ?_, says_any w⟩
    show Says w _ _ (decide (numAt cs 17 = 0))
    rw [numAt_eq hx]
    exact Says.of ent_f12 rfl (vzero_c bm b x w hb ((hc 17).trans hx))
  · obtain ⟨bn, bl, rfl, hp⟩ := h
    exact ⟨_, _, _, _, _, _, _, _, rfl, Says.of ent_p3 rfl (part_zero hL hp hc hT (by decide) (by decide) (by decide) (by decide)), says_any w⟩
  · obtain ⟨b7, b8, b9, bn, bl, rfl, h7, h8, h9, hp⟩ := h
    obtain ⟨x, hx⟩ := hT.ints 16 (by decide)
    obtain ⟨x13, h13⟩ := hT.ints 13 (by decide)
    obtain ⟨x14, h14⟩ := hT.ints 14 (by decide)
    obtain ⟨x15, h15⟩ := hT.ints 15 (by decide)
    obtain ⟨vn, vl, q1, q2, q3, q4⟩ := hp
    refine ⟨_, _, _, _, _, _, _, _, rfl, ?_, ?_⟩
    · show Says w _ _ (zeroP cs [13, 14, 15] [] && decide (numAt cs 16 = 0))
      rw [numAt_eq hx]
      exact Says.of ent_f3 rfl (uzero_c b9 bn bl bm b vn vl [13, 14, 15] [] cs x w (blk_cell0 hL h9) (blk_cell0 hL q1) (blk_cell0 hL q2) (q3.ptrs hL (by decide)) (q4.ptrs hL (by decide)) hc (fun o ho => hT.ints o (by revert o; decide)) (fun o ho => by cases ho) hb ((hc 16).trans hx))
    · show Says w _ _ (uOk (numAt cs 13) (numAt cs 14) (numAt cs 15))
      rw [numAt_eq h13, numAt_eq h14, numAt_eq h15]
      exact ⟨ent_f4, uvalid_c bm b x13 x14 x15 x w hb ((hc 13).trans h13) ((hc 14).trans h14) ((hc 15).trans h15) ((hc 16).trans hx)⟩
  · obtain ⟨bn, bl, rfl, hp⟩ := h
    obtain ⟨A, n, c, h33⟩ := hT.slices 33 (by decide)
    rw [slAt_eq h33] at hm
    exact ⟨_, _, _, _, _, _, _, _, rfl, Says.of ent_p3 rfl (part_zero hL hp hc hT (by decide) (by decide) (by decide) (by decide)), Says.of ent_f5 rfl (mvalid_c bm b _ ml w hb ((hc 33).trans h33) hm)⟩
  · obtain ⟨bn, bl, rfl, hp⟩ := h
    exact ⟨_, _, _, _, _, _, _, _, rfl, Says.of ent_p3 rfl (part_zero hL hp hc hT (by decide) (by decide) (by decide) (by decide)), says_any w⟩
  · refine ⟨_, _, _, _, _, _, _, _, h, ?_, says_any w⟩
    obtain ⟨i0, k0⟩ := hT.ints 34 (by decide)
    obtain ⟨i1, k1⟩ := hT.ints 35 (by decide)
    obtain ⟨i2, k2⟩ := hT.ints 36 (by decide)
    obtain ⟨i3, k3⟩ := hT.ints 37 (by decide)
    obtain ⟨i4, k4⟩ := hT.ints 38 (by decide)
    obtain ⟨i5, k5⟩ := hT.ints 39 (by decide)
    obtain ⟨i6, k6⟩ := hT.ints 40 (by decide)
    obtain ⟨i7, k7⟩ := hT.ints 41 (by decide)
    obtain ⟨i8, k8⟩ := hT.ints 44 (by decide)
    obtain ⟨gr, k9⟩ := hT.gr
    obtain ⟨dn, k10⟩ := hT.dn
    obtain ⟨d, k11⟩ := hT.data
    obtain ⟨A, n, c, k12⟩ := hT.slices 43 (by decide)
    show Says w _ _ (gmZ [numAt cs 34, numAt cs 35, numAt cs 36, numAt cs 37, numAt cs 38, numAt cs 39, numAt cs 40, numAt cs 41, numAt cs 44, (lenAt cs 43 : Int), ((strAt cs 45).size : Int)] (boolAt cs 42) (boolAt cs 46))
    rw [numAt_eq k0, numAt_eq k1, numAt_eq k2, numAt_eq k3, numAt_eq k4, numAt_eq k5, numAt_eq k6, numAt_eq k7, numAt_eq k8, lenAt_eq k12, strAt_eq k11, boolAt_eq k9, boolAt_eq k10]
    refine ⟨ent_f15, mzero_c bm b i0 i1 i2 i3 i4 i5 i6 i7 i8 gr dn A n c d w hb ?_⟩
    intro j v hj
    match j, hj with
    | 0, hj => simp at hj; subst hj; exact (hc 34).trans k0
    | 1, hj => simp at hj; subst hj; exact (hc 35).trans k1
    | 2, hj => simp at hj; subst hj; exact (hc 36).trans k2
    | 3, hj => simp at hj; subst hj; exact (hc 37).trans k3
    | 4, hj => simp at hj; subst hj; exact (hc 38).trans k4
    | 5, hj => simp at hj; subst hj; exact (hc 39).trans k5
    | 6, hj => simp at hj; subst hj; exact (hc 40).trans k6
    | 7, hj => simp at hj; subst hj; exact (hc 41).trans k7
    | 8, hj => simp at hj; subst hj; exact (hc 42).trans k9
    | 9, hj => simp at hj; subst hj; exact (hc 43).trans k12
    | 10, hj => simp at hj; subst hj; exact (hc 44).trans k8
    | 11, hj => simp at hj; subst hj; exact (hc 45).trans k11
    | 12, hj => simp at hj; subst hj; exact (hc 46).trans k10
    | j + 13, hj => simp at hj
end
end Go.Proofs.Ytpbgelhjbfckcaa
/- Valid: what it says of a message; the table while names are struck. -/
namespace Go.Proofs.Ytpbgelhjbfckcaa
open Go.ChangeMaps Go.ChangeShapes Go.WideShapes Go.ChangeAt Go.RowKit
open Go.Maps (Keyed IsMap)
set_option maxRecDepth 100000
set_option linter.unusedVariables false
set_option linter.unusedSimpArgs false

/-- The fields that the kinds use. -/
def useIdx : List (List Nat) := [[13], [0, 1, 2, 7], [0, 1, 2, 3, 7, 4], [0, 5, 6, 9], [0, 5, 6, 3, 4], [5, 6, 10], [5, 6, 3, 8], [0], [0, 3, 12], [0, 1, 2, 8], [0, 1, 2, 3, 8], [11]]
theorem useList_idx : useList = useIdx.map fun ix => ix.map fname := by decide
theorem useIdx_ok : ∀ ix ∈ useIdx, (∀ i ∈ ix, i < 14) ∧ ix.Nodup := by decide
theorem useIdx_len : ∀ ix ∈ useIdx, ix.length ≤ 14 := by decide
def usedIx (cs : List Value) : Option (List Nat) := if 0 ≤ numAt cs 0 then useIdx[(numAt cs 0).toNat]? else none
/-- A message is valid. -/
def validP (cs : List Value) (ml : List Int) : Bool :=
  match usedIx cs with
  | none => false
  | some ix => ix.all (vF cs ml) && (List.range 14).all fun k => ix.contains k || zF cs k
theorem useList_get {j : Nat} {l : List ByteArray} (h : useList[j]? = some l) : ∃ ix, useIdx[j]? = some ix ∧ l = ix.map fname ∧ (∀ i ∈ ix, i < 14) ∧ ix.Nodup := by
  rw [useList_idx, List.getElem?_map] at h
  obtain ⟨ix, h1, rfl⟩ := Option.map_eq_some_iff.1 h
  obtain ⟨h2, h3⟩ := useIdx_ok ix (List.mem_of_getElem? h1)
  exact ⟨ix, h1, rfl, h2, h3⟩
/-- The table, without the names that are struck. -/
def DOk (D : DataW Value) (L : LB) (b bm : Nat) (used : List Nat) : Prop :=
  (∀ k, k < 14 → k ∉ used → Go.Maps.has D (flit k) = true ∧ ∃ v, (∀ z, D.atKey (flit k) z = .held v) ∧ FValI L b bm k v) ∧ (∀ kl, Go.Maps.has D kl = true → ∃ k, k < 14 ∧ k ∉ used ∧ kl = flit k)
theorem flit_key (k : Nat) : WideAt.IsKeyLit (flit k) := trivial
theorem TabR.dok {w0 w : World} {b bm mb : Nat} {M : List (Lit × Value)} {L : LB} (h : TabR w0 b bm mb M L w) : DOk (mkM M) L b bm [] := by
  obtain ⟨_, _, _, _, h5, _, h7, h8⟩ := h
  refine ⟨fun k hk _ => ?_, fun kl hh => ?_⟩
  · obtain ⟨v, hv⟩ := h8 k hk
    obtain ⟨q1, q2⟩ := mkM_at M (flit k) v (flit_key k) hv h5
    obtain ⟨j, hj, e, hf⟩ := h7 _ hv
    obtain rfl := flit_inj k hk j hj e
    exact ⟨q1, v, q2, hf⟩
  · refine Classical.byContradiction fun hn => ?_
    have := (mkM_not M kl (fun e he e2 => ?_)).1
    · rw [hh] at this; cases this
    · obtain ⟨k, hk, e3, _⟩ := h7 e he
      exact hn ⟨k, hk, by simp, by rw [← e2, e3]⟩
theorem DOk.del {D : DataW Value} {L : LB} {b bm : Nat} {used : List Nat} (h : DOk D L b bm used) (k : Nat) (hk : k < 14) : DOk (D.del (flit k)) L b bm (used ++ [k]) := by
  refine ⟨fun j hj hn => ?_, fun kl hh => ?_⟩
  · simp only [List.mem_append, List.mem_singleton, not_or] at hn
    have hne : flit j ≠ flit k := fun e => hn.2 (flit_inj j hj k hk e)
    obtain ⟨q1, v, q2, q3⟩ := h.1 j hj hn.1
    exact ⟨by rw [Go.Maps.has_del_other hne]; exact q1, v, fun z => by rw [Go.Maps.atKey_del_other hne]; exact q2 z, q3⟩
  · by_cases e : kl = flit k
    · subst e; rw [Go.Maps.has_del_same] at hh; cases hh
    · rw [Go.Maps.has_del_other e] at hh
      obtain ⟨j, hj, hn, rfl⟩ := h.2 kl hh
      exact ⟨j, hj, by simp only [List.mem_append, List.mem_singleton, not_or]; exact ⟨hn, fun e2 => e (by rw [e2])⟩, rfl⟩
theorem flit_same {i j : Nat} (hi : i < 14) (hj : j < 14) (h : (flit i).sameKey (flit j) = true) : i = j := by
  refine flit_inj i hi j hj ?_
  unfold flit at h ⊢
  simp only [Lit.sameKey, beq_iff_eq] at h
  rw [h]
/-- What stands while Valid goes through a message's names. -/
structure VS (w0 : World) (b bm mb g : Nat) (L : LB) (cs : List Value) (ml : List Int) (nm : List ByteArray) (W : World) : Prop where
  blks : ∀ e ∈ L, Blk W e.1 e.2.1 e.2.2.toArray
  ne : (∀ e ∈ L, e.1 ≠ mb) ∧ b ≠ mb ∧ g ≠ mb
  msg : Blk W b 41 cs.toArray
  names : Blk W g 9 (strCells nm).toArray
  below : Below w0.heap.size w0 W
  mb0 : w0.heap.size ≤ mb ∧ mb < W.heap.size
theorem VS.step {w0 W W' : World} {b bm mb g : Nat} {L : LB} {cs : List Value} {ml : List Int} {nm : List ByteArray} (h : VS w0 b bm mb g L cs ml nm W) (k : Below W.heap.size W W') : VS w0 b bm mb g L cs ml nm W' :=
  ⟨fun e he => (h.blks e he).step k, h.ne, h.msg.step k, h.names.step k, Below.touch h.below (Touch.below k []) (by simp) h.below.size, h.mb0.1, Nat.lt_of_lt_of_le h.mb0.2 k.size⟩
theorem VS.turn {w0 W W' : World} {b bm mb g : Nat} {L : LB} {cs : List Value} {ml : List Int} {nm : List ByteArray} {S : List Nat} (h : VS w0 b bm mb g L cs ml nm W) (k : Touch S W W') (hS : ∀ s ∈ S, (∀ e ∈ L, e.1 ≠ s) ∧ b ≠ s ∧ g ≠ s ∧ w0.heap.size ≤ s) : VS w0 b bm mb g L cs ml nm W' :=
  ⟨fun e he => (h.blks e he).touch k (fun hm => (hS _ hm).1 e he rfl), h.ne, h.msg.touch k (fun hm => (hS _ hm).2.1 rfl), h.names.touch k (fun hm => (hS _ hm).2.2.1 rfl), Below.touch h.below k (fun s hs => (hS s hs).2.2.2) h.below.size, h.mb0.1, Nat.lt_of_lt_of_le h.mb0.2 k.size⟩
theorem VS.map {w0 W W' : World} {b bm mb g : Nat} {L : LB} {cs : List Value} {ml : List Int} {nm : List ByteArray} (h : VS w0 b bm mb g L cs ml nm W) (k : Touch [mb] W W') : VS w0 b bm mb g L cs ml nm W' :=
  h.turn k (fun s hs => by obtain rfl : s = mb := by simpa using hs
                           exact ⟨h.ne.1, h.ne.2.1, h.ne.2.2, h.mb0.1⟩)
theorem agg_inj {fw fr fz fo fw' fr' fz' fo' : FuncId} {cw cr cz co cw' cr' cz' co' : List Value} (h : Value.agg (fv fw fr fz fo cw cr cz co).toArray = Value.agg (fv fw' fr' fz' fo' cw' cr' cz' co').toArray) : fz = fz' ∧ cz = cz' := by
  injection h with h
  have := List.toArray_inj h
  unfold fv at this
  injection this with h1 this
  injection this with h2 this
  injection this with h3 this
  injection h3 with h4 _ h5
  injection h4 with h4
  exact ⟨h4, List.toArray_inj h5⟩
end Go.Proofs.Ytpbgelhjbfckcaa
/- Valid walked. -/
namespace Go.Proofs.Ytpbgelhjbfckcaa
open Go.ChangeMaps Go.ChangeShapes Go.WideShapes Go.ChangeAt Go.RowKit
open Go.Maps (Keyed IsMap)
set_option maxRecDepth 100000
set_option linter.unusedVariables false
set_option linter.unusedSimpArgs false

theorem zero_field (w : World) : (zeroValue 101).run Try.prog w = .ok (.agg zfield.toArray) w := by kernel_rfl
theorem keyed_str : Keyed Try.prog 9 := Go.Maps.string_keyed Try.underlying9
abbrev fvs (fw fr fz fo : FuncId) (cw cr cz co : List Value) : Value := .agg #[.func (.func fw) #[] cw.toArray, .func (.func fr) #[] cr.toArray, .func (.func fz) #[] cz.toArray, .func (.func fo) #[] co.toArray]
theorem run_field3 (fw fr fz fo : FuncId) (cw cr cz co : Array Value) (W : World) : (Instr.field 101 (.agg #[.func (.func fw) #[] cw, .func (.func fr) #[] cr, .func (.func fz) #[] cz, .func (.func fo) #[] co]) 3).run Try.prog W = .ok (.func (.func fo) #[] co) W := by kernel_rfl
theorem validP_some {cs : List Value} {ml : List Int} {ix : List Nat} (h : usedIx cs = some ix) : validP cs ml = (ix.all (vF cs ml) && (List.range 14).all fun k => ix.contains k || zF cs k) := by unfold validP; rw [h]
set_option maxHeartbeats 4000000 in
theorem valid_c (cs : List Value) (ml : List Int) (w : World) (hT : MsgT cs) (hm : Li w (slAt cs 33) ml) : Calls Try.prog 21 #[.agg cs.toArray] w fun e w' => e = .returned (.bool (validP cs ml)) ∧ Below w.heap.size w w' := by
  obtain ⟨kd, h0⟩ := hT.ints 0 (by decide)
  have hb0 := hT.kind kd h0
  have hn0 := numAt_eq h0
  have hwf : (Lit.int .i64 kd).wf = true := by
    have := hb0.1; have := hb0.2
    simp [Lit.wf, IntKind.min, IntKind.max, IntKind.signed, IntKind.bits]; omega
  have HT := hide hT
  have HM := hide hm
  have H0 := hide h0
  have HO := hide (Own.nil w [] (by simp))
  clear hT hm h0 hb0
  go_enter Try.func21, Try.ntmps21
  go_wp2_with ((with_reducible refine at_box 41 (.tmp 0) ?_); refine wpList_box_own HO.out rfl 41 (.tmp 0) rfl cs rfl ?_; intro WA b hO; replace HO := hide hO; clear hO; have k0 : WA.cell? ⟨b, 0, none⟩ = some (.int .i64 kd) := (HO.out.cells 0 rfl 0).trans H0.out)
  refine (uses_c kd hwf _).mono ?_
  rintro e w1 ⟨hb1, hr⟩
  replace HO := hide (HO.out.step hb1)
  clear hb1 k0 hwf
  rcases hr with ⟨hk, rfl⟩ | ⟨l, g, hul, hk0, hk1, rfl, hbg, hgn⟩
  · have HV : Hid (validP cs ml = false) := hide (by
      have : usedIx cs = none := by
        unfold usedIx
        rw [hn0]
        split
        · rw [List.getElem?_eq_none]
          show 12 ≤ _
          omega
        · rfl
      unfold validP
      rw [this])
    clear hk hn0
    go_wp2_with fail
    go_ret
    exact ⟨by rw [HV.out]; rfl, HO.out.below⟩
  · obtain ⟨ix, hix, rfl, hlt14, hnd⟩ := useList_get hul
    have hn14 : ix.length ≤ 14 := useIdx_len ix (List.mem_of_getElem? hix)
    have HU : Hid (usedIx cs = some ix) := hide (by unfold usedIx; rw [hn0, if_pos hk0]; exact hix)
    have HG := hide hbg
    have HX14 := hide hlt14
    have HND := hide hnd
    unfold useVal
    obtain ⟨n, hn⟩ : ∃ n, (ix.map fname).length = n := ⟨_, rfl⟩
    rw [hn]
    replace hn14 : n ≤ 14 := by rw [← hn, List.length_map]; exact hn14
    have HN : Hid (n = ix.length) := hide (by rw [← hn, List.length_map])
    clear hn hix hul hk0 hk1 hbg hgn hlt14 hnd hn0
    go_wp2_with fail
    refine (fields_c b _).mono ?_
    rintro e w2 ⟨bm, mb, M, L, rfl, hL, htab, hbm⟩
    have hB := (HO.out.has (b, 41, cs) (by simp))
    have HVS : Hid (VS w b bm mb g L cs ml (ix.map fname) w2) := hide ⟨fun e he => (hL.has e he).1, ⟨htab.2.1, fun e => by have := hB.1.lt; have := htab.2.2.1; omega, fun e => by have := HG.out.lt; have := htab.2.2.1; omega⟩, hB.1.step hL.below, HG.out.step hL.below, (HO.out.step hL.below).below, Nat.le_trans HO.out.size htab.2.2.1, htab.2.2.2.1⟩
    have HBM := hide hbm
    have HD : Hid (∃ D, w2.ownsMap Try.prog 9 RV mb M.length D ∧ DOk D L b bm (ix.take 0)) := hide ⟨_, htab.1, htab.dok⟩
    clear hL htab hbm hB HO HG
    go_wp2_with fail
    go_loopw [21] (fun v21 wr => ∃ j : Nat, v21 = .int .i64 j ∧ j ≤ n ∧ VS w b bm mb g L cs ml (ix.map fname) wr ∧ (∃ D, wr.ownsMap Try.prog 9 RV mb M.length D ∧ DOk D L b bm (ix.take j)) ∧ (ix.take j).all (vF cs ml) = true) (fun v21 _ => n - (intOf v21).toNat)
    case atStart => exact ⟨0, rfl, Nat.zero_le _, HVS.out, HD.out, rfl⟩
    case round =>
      obtain ⟨j, rfl, hj, hv, ⟨D, hown, hdok⟩, hall⟩ := hrel
      clear HVS HD
      have HVS := hide hv
      by_cases hlt : j < n
      · have hjl : j < ix.length := by rw [← HN.out]; exact hlt
        obtain ⟨k, hk⟩ : ∃ k, ix[j] = k := ⟨_, rfl⟩
        have hk14 : k < 14 := HX14.out k (hk ▸ List.getElem_mem hjl)
        have hnk : k ∉ ix.take j := by
          intro hm
          obtain ⟨i, hi, e⟩ := List.mem_iff_getElem.1 hm
          rw [List.length_take] at hi
          rw [List.getElem_take] at e
          have := (List.getElem_inj (h₀ := by omega) (h₁ := hjl) HND.out).1 (e.trans hk.symm)
          omega
        have htk : ix.take (j + 1) = ix.take j ++ [k] := by rw [List.take_add_one, List.getElem?_eq_getElem hjl, hk]; rfl
        have hname : wr.cell? ⟨g, j, none⟩ = some (.string (fname k)) := by
          rw [HVS.out.names.cell j]
          simp [strCells, hjl, hk]
        obtain ⟨hh, v, hat, hf⟩ := hdok.1 k hk14 hnk
        obtain ⟨fw, fr, fz, fo, cw, cr, cz, co, rfl, hz, ho⟩ := field_at hk14 hf HVS.out.blks HBM.out (fun o => (HVS.out.msg.cell o).trans (by simp)) HT.out (HM.out.step HVS.out.below)
        have hfd := run_field3 fw fr fz fo cw.toArray cr.toArray cz.toArray co.toArray
        have HAT : Hid (∀ z, D.atKey (flit k) z = .held (.agg #[.func (.func fw) #[] cw.toArray, .func (.func fr) #[] cr.toArray, .func (.func fz) #[] cz.toArray, .func (.func fo) #[] co.toArray])) := hide hat
        have HOW := hide hown
        have HHO := hide ho.2
        have hent := fun (W : World) => ho.1 co.toArray W
        have HDK := hide (hdok.del k hk14)
        have HAL : Hid (vF cs ml k = true → (ix.take (j + 1)).all (vF cs ml) = true) := hide (fun h => by rw [htk, List.all_append, hall]; simp [h])
        have HNO : Hid (vF cs ml k = false → validP cs ml = false) := hide (fun h => by
          rw [validP_some HU.out]
          have : ix.all (vF cs ml) = false := by
            rw [List.all_eq_false]
            exact ⟨k, hk ▸ List.getElem_mem hjl, by simp [h]⟩
          rw [this]; rfl)
        rw [← htk] at HDK
        have HK14 := hide hk14
        have HLT := hide hlt
        have hji : (j : Int) < (n : Int) := by omega
        clear hv hown hdok hall hlt hjl hk hk14 hnk htk hh hat hf hz ho hj
        go_wp2_with ((with_reducible refine at_lookup_ 96 (.tmp 25) (.tmp 26) false ?_); refine wpList_lookup_held rfl (.tmp 25) (.tmp 26) 96 rfl 9 101 keyed_str Try.underlying96 (zero_field _) mb M.length D rfl HOW.out (.string (fname k)) (.agg #[.func (.func fw) #[] cw.toArray, .func (.func fr) #[] cr.toArray, .func (.func fz) #[] cz.toArray, .func (.func fo) #[] co.toArray]) (flit k) rfl (key_name k HK14.out) HAT.out ?_)
        refine HHO.out.mono ?_
        rintro e w3 ⟨rfl, hb3⟩
        replace HVS := hide (HVS.out.step hb3)
        replace HOW := hide (HOW.out.kept (grown_of_below hb3 none) (by simp))
        clear hb3 hname hent hfd HHO
        cases hvf : vF cs ml k with
        | false =>
          replace HNO := hide (HNO.out hvf)
          clear hvf
          go_wp2_with fail
          go_ret
          exact ⟨by rw [HNO.out]; rfl, HVS.out.below⟩
        | true =>
          replace HAL := hide (HAL.out hvf)
          clear hvf HNO
          go_wp2_with (at_delete; refine Go.wpList_delete_own _ rfl (.tmp 31) (.tmp 32) 96 9 rfl 101 keyed_str Try.underlying96 RV mb M.length D rfl HOW.out (.string (fname k)) (flit k) rfl (key_name k HK14.out) ?_; intro w4 hown4 hturn; replace HVS := hide (HVS.out.map (Touch.map hturn)); replace HOW := hide hown4; clear hown4 hturn)
          go_roundw
          case rel => exact ⟨j + 1, by go_num, HLT.out, HVS.out, ⟨_, HOW.out, HDK.out⟩, HAL.out⟩
          case measure => have := HLT.out; simp [intOf]; omega
      · obtain rfl : j = n := by omega
        have HAL : Hid (ix.all (vF cs ml) = true) := hide (by rw [HN.out, List.take_length] at hall; exact hall)
        have HDK : Hid (DOk D L b bm ix) := hide (by rw [HN.out, List.take_length] at hdok; exact hdok)
        have HOW := hide hown
        clear hv hown hdok hall hlt hj
        obtain ⟨r, hr⟩ : ∃ r, wr.heap.size = r := ⟨_, rfl⟩
        have HR : Hid ((∀ e ∈ L, e.1 ≠ r) ∧ b ≠ r ∧ g ≠ r ∧ w.heap.size ≤ r ∧ mb ≠ r) := hide ⟨fun e he => by have := (HVS.out.blks e he).lt; omega, by have := HVS.out.msg.lt; omega, by have := HVS.out.names.lt; omega, by rw [← hr]; exact HVS.out.below.size, by have := HVS.out.mb0.2; omega⟩
        go_wp2_with (at_range; refine Go.wpList_range_own _ rfl (.tmp 34) 96 rfl 9 101 keyed_str Try.underlying96 RV mb M.length D rfl HOW.out ?_; intro w5 hrg hg hs; have HRG := hide hrg; have HG5 := hide hg; clear hrg hg hs)
        go_frame
        rw [hr] at HRG
        rw [hr]
        replace HVS := hide (HVS.out.turn (Touch.grown HG5.out) (by simp))
        clear HG5 hr HOW
        go_loopw [36] (fun _ wr => ∃ (left : Lit → Bool) (cnt : Nat), wr.ranges Try.prog 9 RV mb r M.length D left cnt ∧ VS w b bm mb g L cs ml (ix.map fname) wr ∧ (∀ kl, left kl = true → Go.Maps.has D kl = true) ∧ (∀ k, k < 14 → k ∉ ix → left (flit k) = false → zF cs k = true)) (fun _ wr => wr.rangeLeft mb r)
        case atStart => exact ⟨_, _, HRG.out, HVS.out, fun kl h => h, fun k hk hn h => by have := (HDK.out.1 k hk hn).1; rw [h] at this; cases this⟩
        case round =>
          obtain ⟨left, cnt, hrg, hv, hlh, hz⟩ := hrel
          clear HVS HRG
          have HVS := hide hv
          have HRG := hide hrg
          have HLH := hide hlh
          have HZZ := hide hz
          clear hv hrg hlh hz
          go_wp2_with (at_next; refine Go.wpList_next_ranges _ rfl (.tmp 35) rfl 9 keyed_str RV (fun s : ByteArray => .string s) (fun v : Value => v) (fun key kl h => by obtain ⟨s, e, _⟩ := Go.WideMaps.string_of_keyOf Try.underlying9 h; exact ⟨s, e⟩) (fun v y _ => ⟨v, rfl⟩) mb r M.length D left cnt rfl HRG.out ?_ ?_)
          · intro hc0 hl0
            have HV : Hid (validP cs ml = true) := hide (by
              rw [validP_some HU.out, HAL.out, Bool.true_and, List.all_eq_true]
              intro k hk
              by_cases hm : k ∈ ix
              · simp [hm]
              · rw [HZZ.out k (List.mem_range.1 hk) hm (hl0 _)]; simp)
            clear hc0 hl0
            go_wp2_with fail
            go_ret
            exact ⟨by rw [HV.out]; rfl, HVS.out.below⟩
          · intro x c kl y1 y2 w6 cnt6 hkx hlk hry hat hrg6 hlt6 hg6 hs6 hen
            obtain ⟨k, hk14, hnk, rfl⟩ := HDK.out.2 kl (HLH.out kl hlk)
            obtain ⟨hh, v, hatv, hf⟩ := HDK.out.1 k hk14 hnk
            obtain rfl : v = c := by
              have h1 := (hatv (.held v)).symm.trans (hat (.held v))
              simp only [RV, Option.some.injEq, Prod.mk.injEq] at hry
              rw [← hry.1] at h1
              injection h1
            replace HVS := hide (HVS.out.turn (Touch.grown hg6) (fun s hs => by obtain rfl : s = r := by simpa using hs
                                                                                exact ⟨HR.out.1, HR.out.2.1, HR.out.2.2.1, HR.out.2.2.2.1⟩))
            have hmsg : ∀ W, VS w b bm mb g L cs ml (ix.map fname) W → FieldOf W v (zF cs k) (vF cs ml k) := fun W hW => field_at hk14 hf hW.blks HBM.out (fun o => (hW.msg.cell o).trans (by simp)) HT.out (HM.out.step hW.below)
            obtain ⟨fw, fr, fz, fo, cw, cr, cz, co, rfl, hz, _⟩ := hmsg _ HVS.out
            have HSAY : Hid (∀ W, VS w b bm mb g L cs ml (ix.map fname) W → Calls Try.prog fz cz.toArray W fun e w' => e = .returned (.bool (zF cs k)) ∧ Below W.heap.size W w') := hide (fun W hW => by
              obtain ⟨fw', fr', fz', fo', cw', cr', cz', co', e, hz', _⟩ := hmsg W hW
              obtain ⟨rfl, rfl⟩ := agg_inj e
              exact hz'.2)
            have hent := fun (W : World) => hz.1 cz.toArray W
            have HRG6 := hide hrg6
            have HO := hide (Own.nil w6 [] (by simp))
            have HLC : Hid (cnt6 < cnt) := hide hlt6
            have HNO : Hid (zF cs k = false → validP cs ml = false) := hide (fun h => by
              rw [validP_some HU.out, HAL.out, Bool.true_and, List.all_eq_false]
              exact ⟨k, List.mem_range.2 hk14, by simp [hnk, h]⟩)
            have HK14 : Hid (k < 14 ∧ k ∉ ix) := hide ⟨hk14, hnk⟩
            clear hkx hlk hry hat hrg6 hlt6 hg6 hs6 hh hatv hf hmsg hz hk14 hnk
            unfold fv at hen ⊢
            go_wp2_with (first
              | ((with_reducible refine at_alloc 101 ?_); refine wpList_alloc_own HO.out rfl 101 rfl zfield info_field ?_; intro WA b9 hO; replace HO := hide hO; clear hO)
              | ((with_reducible refine at_store 101 (.tmp 9) ?_); refine wpList_store_own HO.out rfl 101 (.tmp 9) (.tmp 39) rfl 0 _ 0 _ _ (fv fw fr fz fo cw cr cz co) (fv fw fr fz fo cw cr cz co) rfl (.agg (fv fw fr fz fo cw cr cz co).toArray) rfl rfl (fits_agg _) (by simp [fv, zfield]) rfl size_field rfl ?_; intro WA hO; replace HO := hide hO; clear hO; have k9 : ∀ j, WA.cell? ⟨b9, j, none⟩ = ([.func (.func fw) #[] cw.toArray, .func (.func fr) #[] cr.toArray, .func (.func fz) #[] cz.toArray, .func (.func fo) #[] co.toArray] : List Value)[j]? := HO.out.cells 0 rfl))
            replace HVS := hide (HVS.out.step HO.out.below)
            replace HRG6 := hide (HRG6.out.kept (grown_of_below HO.out.below none) (by simp) (by simp))
            clear HO k9 hen
            refine (HSAY.out _ HVS.out).mono ?_
            rintro e w7 ⟨rfl, hb7⟩
            replace HVS := hide (HVS.out.step hb7)
            replace HRG6 := hide (HRG6.out.kept (grown_of_below hb7 none) (by simp) (by simp))
            clear hb7 hent HSAY
            cases hzf : zF cs k with
            | false =>
              replace HNO := hide (HNO.out hzf)
              clear hzf
              go_wp2_with fail
              go_ret
              exact ⟨by rw [HNO.out]; rfl, HVS.out.below⟩
            | true =>
              have HZF := hide hzf
              clear hzf HNO
              go_wp2_with fail
              go_roundw
              case rel =>
                refine ⟨_, cnt6, HRG6.out, HVS.out, fun kl h => HLH.out kl (by simp only [Bool.and_eq_true] at h; exact h.1), fun k' hk' hn' h => ?_⟩
                by_cases e : k' = k
                · rw [e]; exact HZF.out
                · refine HZZ.out k' hk' hn' ?_
                  cases hl : left (flit k') with
                  | false => rfl
                  | true =>
                    rw [hl, Bool.true_and] at h
                    have h2 : (flit k').sameKey (flit k) = true := by simpa using h
                    exact absurd (flit_same hk' HK14.out.1 h2) e
              case measure => rw [HRG6.out.left_eq, HRG.out.left_eq]; exact HLC.out
end Go.Proofs.Ytpbgelhjbfckcaa
/- ClientSends: what a client sends is valid, goes to a machine, and is its open request. -/
namespace Go.Proofs.Ytpbgelhjbfckcaa
open Go.ChangeShapes Go.WideShapes Go.ChangeAt Go.RowKit
set_option maxRecDepth 100000
set_option linter.unusedVariables false
set_option linter.unusedSimpArgs false

/-- A request that a client may have open. -/
def ReqOk (i num : Int) (cs : List Value) : Prop := ∃ k g b v, cs = req k g i num b v ∧ 1 ≤ num ∧ ((k = 1 ∧ 0 ≤ g ∧ g ≤ 8 ∧ b.size ≤ 4096 ∧ v = 0) ∨ (k = 9 ∧ 1 ≤ g ∧ g ≤ 8 ∧ b = ⟨#[]⟩))
def Sends (S : CS) : Prop := ∀ cs, S.opened = some cs → ReqOk S.id S.number cs
theorem sends_new (i n : Int) : Sends (csNew i n) := fun cs hc => by cases hc
theorem Sends.asks {S : CS} (h : Sends S) : Asks S := fun cs hc => by
  obtain ⟨k, g, b, v, e, _, hk⟩ := h cs hc
  exact ⟨k, g, b, v, e, hk.imp (·.1) (·.1)⟩
theorem req_msg {k g i num : Int} {b : ByteArray} {v : Int} (hk : I64 k) : MsgT (req k g i num b v) := by
  refine ⟨rfl, fun o ho => ?_, fun x hx => (by injection hx with hx; injection hx with _ hx; exact hx ▸ hk), fun o ho => ?_, ⟨b, rfl⟩, ⟨_, rfl⟩, ⟨_, rfl⟩, ⟨_, rfl⟩⟩
  · simp only [iOffs, List.mem_cons, List.not_mem_nil, or_false] at ho
    rcases ho with rfl | rfl | rfl | rfl | rfl | rfl | rfl | rfl | rfl | rfl | rfl | rfl | rfl | rfl | rfl | rfl | rfl | rfl | rfl | rfl | rfl | rfl | rfl | rfl | rfl | rfl | rfl | rfl | rfl | rfl | rfl | rfl
    all_goals exact ⟨_, rfl⟩
  · simp only [sOffs, List.mem_cons, List.not_mem_nil, or_false] at ho
    rcases ho with rfl | rfl | rfl | rfl | rfl | rfl | rfl | rfl | rfl | rfl | rfl <;> exact ⟨none, 0, 0, rfl⟩
theorem valid_1 {g i num : Int} {b : ByteArray} (h1 : 0 ≤ g) (h2 : g ≤ 8) (h3 : 1 ≤ i ∧ i ≤ 8) (h4 : 1 ≤ num ∧ num ≤ 1000000) (h5 : b.size ≤ 4096) : validP (req 1 g i num b 0) [] = true := by
  have hx : usedIx (req 1 g i num b 0) = some [0, 1, 2, 7] := rfl
  rw [validP_some hx]
  have e : (List.range 14) = [0, 1, 2, 3, 4, 5, 6, 7, 8, 9, 10, 11, 12, 13] := rfl
  have v0 : vF (req 1 g i num b 0) [] 0 = true := by show (decide (0 ≤ g) && decide (g ≤ 8)) = true; simp [h1, h2]
  have v1 : vF (req 1 g i num b 0) [] 1 = true := by show (decide (1 ≤ i) && decide (i ≤ 8)) = true; simp [h3.1, h3.2]
  have v2 : vF (req 1 g i num b 0) [] 2 = true := by show (decide (1 ≤ num) && decide (num ≤ 9223372036854775807)) = true; simp [h4.1]; omega
  have v7 : vF (req 1 g i num b 0) [] 7 = true := by show decide (b.size ≤ 4096) = true; simp [h5]
  rw [e]
  simp only [List.all_cons, List.all_nil, v0, v1, v2, v7]
  rfl
theorem valid_9 {g i num v : Int} (h1 : 1 ≤ g) (h2 : g ≤ 8) (h3 : 1 ≤ i ∧ i ≤ 8) (h4 : 1 ≤ num ∧ num ≤ 1000000) : validP (req 9 g i num ⟨#[]⟩ v) [] = true := by
  have hx : usedIx (req 9 g i num ⟨#[]⟩ v) = some [0, 1, 2, 8] := rfl
  rw [validP_some hx]
  have e : (List.range 14) = [0, 1, 2, 3, 4, 5, 6, 7, 8, 9, 10, 11, 12, 13] := rfl
  have v0 : vF (req 9 g i num ⟨#[]⟩ v) [] 0 = true := by show (decide (0 ≤ g) && decide (g ≤ 8)) = true; simp [h2]; omega
  have v1 : vF (req 9 g i num ⟨#[]⟩ v) [] 1 = true := by show (decide (1 ≤ i) && decide (i ≤ 8)) = true; simp [h3.1, h3.2]
  have v2 : vF (req 9 g i num ⟨#[]⟩ v) [] 2 = true := by show (decide (1 ≤ num) && decide (num ≤ 9223372036854775807)) = true; simp [h4.1]; omega
  rw [e]
  simp only [List.all_cons, List.all_nil, v0, v1, v2]
  rfl
/-- What is known of a request that is sent. -/
structure SentOk (i num : Int) (cs : List Value) : Prop where
  msg : MsgT cs
  mach : slAt cs 33 = .slice none 0 0
  valid : validP cs [] = true
  client : cs[2]? = some (.int .i64 i)
  number : cs[3]? = some (.int .i64 num)
theorem ReqOk.sent {i num : Int} {cs : List Value} (h : ReqOk i num cs) (h3 : 1 ≤ i ∧ i ≤ 8) (h4 : num ≤ 1000000) : SentOk i num cs := by
  obtain ⟨k, g, b, v, rfl, h5, ⟨rfl, q1, q2, q3, rfl⟩ | ⟨rfl, q1, q2, rfl⟩⟩ := h
  · exact ⟨req_msg (by unfold I64; omega), rfl, valid_1 q1 q2 h3 ⟨h5, h4⟩ q3, rfl, rfl⟩
  · exact ⟨req_msg (by unfold I64; omega), rfl, valid_9 q1 q2 h3 ⟨h5, h4⟩, rfl, rfl⟩
/-- What a step sends is the open request, to the client's target. -/
theorem step_sends (S : CS) (hS : Sends S) (hn : 0 ≤ S.number) (x : OpV) : Sends (cStep S x).1 ∧ ∀ o ∈ (cStep S x).2, ∃ cs, (cStep S x).1.opened = some cs ∧ o = .int .i64 (cStep S x).1.target :: cs := by

  unfold cStep
  split
  · show Sends (cRequest S x.group x.body).st ∧ ∀ o ∈ (if (cRequest S x.group x.body).code = 0 then [(cRequest S x.group x.body).out] else []), ∃ cs, (cRequest S x.group x.body).st.opened = some cs ∧ o = .int .i64 (cRequest S x.group x.body).st.target :: cs
    unfold cRequest
    split
    · exact ⟨hS, by simp⟩
    · split
      · exact ⟨hS, by simp⟩
      · split
        · exact ⟨hS, by simp⟩
        · refine ⟨fun cs hc => ?_, fun o ho => ?_⟩
          · injection hc with hc
            subst hc
            exact ⟨1, x.group, x.body, 0, rfl, by show 1 ≤ S.number + 1; omega, .inl ⟨rfl, by omega, by omega, by omega, rfl⟩⟩
          · simp only [if_true, List.mem_singleton] at ho
            exact ⟨_, rfl, ho⟩
  · split
    · show Sends (cCall S x.group x.value).st ∧ ∀ o ∈ (if (cCall S x.group x.value).code = 0 then [(cCall S x.group x.value).out] else []), ∃ cs, (cCall S x.group x.value).st.opened = some cs ∧ o = .int .i64 (cCall S x.group x.value).st.target :: cs
      unfold cCall
      split
      · exact ⟨hS, by simp⟩
      · split
        · exact ⟨hS, by simp⟩
        · refine ⟨fun cs hc => ?_, fun o ho => ?_⟩
          · injection hc with hc
            subst hc
            exact ⟨9, x.group, ⟨#[]⟩, x.value, rfl, by show 1 ≤ S.number + 1; omega, .inr ⟨rfl, by omega, by omega, rfl⟩⟩
          · simp only [if_true, List.mem_singleton] at ho
            exact ⟨_, rfl, ho⟩
    · split
      · show Sends (cRetry S).st ∧ ∀ o ∈ (if (cRetry S).is = true then [(cRetry S).out] else []), ∃ cs, (cRetry S).st.opened = some cs ∧ o = .int .i64 (cRetry S).st.target :: cs
        unfold cRetry
        cases ho : S.opened with
        | none => exact ⟨hS, by simp⟩
        | some cs =>
          refine ⟨fun cs' hc => hS cs' hc, fun o h => ?_⟩
          simp only [if_true, List.mem_singleton] at h
          exact ⟨cs, ho, h⟩
      · split
        · show Sends (cReceive S (repM x S.number) x.frm).st ∧ ∀ o ∈ (cReceive S (repM x S.number) x.frm).out.toList, ∃ cs, (cReceive S (repM x S.number) x.frm).st.opened = some cs ∧ o = .int .i64 (cReceive S (repM x S.number) x.frm).st.target :: cs
          unfold cReceive
          cases ho : S.opened with
          | none => exact ⟨hS, by simp⟩
          | some cs =>
            obtain ⟨k, g, b, v, rfl, hk⟩ := hS.asks cs ho
            show Sends (if answersB S k g (repM x S.number) = true then cAnswered S _ (repM x S.number) x.frm else ⟨S, false, none⟩).st ∧ ∀ o ∈ (if answersB S k g (repM x S.number) = true then cAnswered S _ (repM x S.number) x.frm else (⟨S, false, none⟩ : RecV)).out.toList, ∃ cs, (if answersB S k g (repM x S.number) = true then cAnswered S _ (repM x S.number) x.frm else (⟨S, false, none⟩ : RecV)).st.opened = some cs ∧ o = .int .i64 (if answersB S k g (repM x S.number) = true then cAnswered S _ (repM x S.number) x.frm else (⟨S, false, none⟩ : RecV)).st.target :: cs
            split
            · unfold cAnswered
              split
              · exact ⟨fun cs' hc => (by cases hc), by simp⟩
              · split
                · refine ⟨fun cs' hc => hS cs' hc, fun o h => ?_⟩
                  simp only [Option.toList_some, List.mem_singleton] at h
                  exact ⟨_, ho, h⟩
                · exact ⟨hS, by simp⟩
            · exact ⟨hS, by simp⟩
        · exact ⟨hS, by simp⟩
theorem cStep_id (S : CS) (x : OpV) : (cStep S x).1.id = S.id := by
  unfold cStep
  split
  · show (cRequest S x.group x.body).st.id = _
    unfold cRequest opened
    repeat' split
    all_goals rfl
  · split
    · show (cCall S x.group x.value).st.id = _
      unfold cCall opened
      repeat' split
      all_goals rfl
    · split
      · show (cRetry S).st.id = _
        unfold cRetry turned
        split
        all_goals rfl
      · split
        · show (cReceive S (repM x S.number) x.frm).st.id = _
          unfold cReceive cAnswered
          repeat' split
          all_goals rfl
        · rfl
end Go.Proofs.Ytpbgelhjbfckcaa
