/- What the field Message reads. -/
import Derived.Test.YtpbgelhjbfckcaaT16
import Derived.Test.YtpbgelhjbfckcaaT02
import Derived.Deep.MidRow
import Derived.Deep.AppendLies
import Derived.Test.YtpbgelhjbfckcaaT01
namespace Go.Proofs.Ytpbgelhjbfckcaa
open Go.ChangeShapes Go.WideShapes Go.ChangeAt Go.RowKit
set_option linter.unusedVariables false
set_option linter.unusedSimpArgs false

theorem step_store_part {P : Program} {w : World} {ops : Array Oper} {op : Oper} {a : Act} {Q : Exit → Act → World → Prop} {K : Act → World → Prop} {E : Prop} (hgd : op.guard = none) (ty : TypeId) (x y : Operand) (ho : op.op = .store ty x y)
    (g o : Nat) (t : TypeId) (old vs : List Value) (v : Value) (hx : a.eval x = .pointer (some ⟨g, o, none⟩)) (hy : a.eval y = v) (hv : Fits v vs) (hb : Blk w g t old.toArray) (hs : o + vs.length ≤ old.length)
    (hi : (P.info? ty).map (·.size) = some vs.length) (h1 : vs.all (·.oneCell') = true)
    (h : ∀ w', Blk w' g t (old.take o ++ vs ++ old.drop (o + vs.length)).toArray → Touch [g] w w' → K (a.put op.dst undef) w') : if Region.wanted op (yielded ops a.tmps) = true then Oper.wp P op a w K Q else E := by
  have hw : Region.wanted op (yielded ops a.tmps) = true := by simp [Region.wanted, hgd]
  rw [if_pos hw]
  unfold Oper.wp execOp
  simp only [ho, hx, hy, Sem.run_bind, run_store_own hv hb hs hi h1, Result.andThen_ok]
  exact h _ (Blk.setCells vs o w _ hb (by simpa using hs)) (touch_setCells w g o _).1
theorem gmCs_one (m : GM) (A : Option Addr) (n c : Nat) : (gmCs m (.slice A n c)).all (·.oneCell') = true := rfl
set_option maxRecDepth 100000 in
set_option maxHeartbeats 4000000 in
theorem mread_c (rb : Nat) (k : Option Nat) (l : List UInt8) (c : Int) (b bp : Nat) (cs : List Value) (w : World) (h : Rd w rb k l c) (h1 : w.cell? ⟨bp, 0, none⟩ = some (at0 b)) (hbp : bp ≠ rb) (hbb : bp ≠ b) (hB : Blk w b 41 cs.toArray) (hgb : b ≠ rb) (hkg : k ≠ some b)
    (hk : ∀ y, k = some y → y < w.heap.size) (hl : l.length ≤ 1000000000) (ho : cs.length = 47) :
    Calls Try.prog 73 #[at0 rb, at0 bp] w fun e w' => e = .returned (.tuple #[]) ∧ Rd w' rb k (rText (l, c)).1.1 (rText (l, c)).1.2 ∧ ∃ A n cc, Blk w' b 41 (cs.take 34 ++ gmCs (dMsg (rText (l, c)).2) (.slice A n cc) ++ cs.drop (34 + (gmCs (dMsg (rText (l, c)).2) (.slice A n cc)).length)).toArray ∧ EsAB w' w.heap.size (.slice A n cc) (dMsg (rText (l, c)).2).l ∧ Touch [b, rb] w w' := by
  have HBL : Hid (b < w.heap.size) := hide hB.lt
  have H := hide h
  have HB := hide hB
  have HBP := hide hbp
  have HBB := hide hbb
  have HGB := hide hgb
  have HKG := hide hkg
  have HK := hide hk
  have HL := hide hl
  have HOF := hide ho
  clear h hB hbp hbb hgb hkg hk hl ho
  go_enter Try.func73, Try.ntmps73
  go_wp2_with fail
  refine wp_region_held_drew (S := fun W => W.cell? ⟨bp, 0, none⟩ = some (at0 b)) (by kernel_rfl) (h1) (fun hS0 => ?_)
  replace H : Hid (Rd w.drew rb k l c) := hide H.out
  replace HB : Hid (Blk w.drew b _ cs.toArray) := hide HB.out
  replace HK : Hid (∀ y, k = some y → y < w.drew.heap.size) := hide HK.out
  refine wpAnyH_take (i := 0) (v := ?vma0) rfl (by kernel_rfl) (by kernel_rfl) (by kernel_rfl) (fun _ _ _ h => h) (Or.inl ⟨by rfl, ?hyma0⟩) (by assumption) ?restma0
  case hyma0 => (intro w hSw; (try dsimp only at hSw); go_simp; first | done | (with_reducible rfl))
  try simp only [Act.put, List.getElem_toArray, List.getElem_cons_zero, List.getElem_cons_succ, List.setIfInBounds_toArray, List.set_cons_zero, List.set_cons_succ]
  refine wpAnyH_take (i := 1) (v := ?vma1) rfl (by kernel_rfl) (by kernel_rfl) (by kernel_rfl) (fun _ _ _ h => h) (Or.inl ⟨by rfl, ?hyma1⟩) (by assumption) ?restma1
  case hyma1 => (intro w hSw; (try dsimp only at hSw); go_simp; first | done | (with_reducible rfl))
  try simp only [Act.put, List.getElem_toArray, List.getElem_cons_zero, List.getElem_cons_succ, List.setIfInBounds_toArray, List.set_cons_zero, List.set_cons_succ]
  refine wpAnyH_ready (rs := [2]) (by kernel_rfl) (by simp) ?_
  refine AllReadyH.cons rfl (fun K hK => ?_) AllReadyH.nil
  go_simp
  refine (rdText_c rb k l c _ H.out (by have := HL.out; omega) (fun y hy => by have := HK.out y hy; exact this)).mono ?_
  rintro e w2 ⟨rfl, hr2, ht2⟩
  have HR2 := hide hr2
  have HT2 := hide ht2
  have HB2 := hide (HB.out.touch ht2 (by simpa using HGB.out))
  have HSZ : Hid ((rText (l, c)).2.length ≤ 1000000000) := hide (Nat.le_trans (rText_both (l, c)).2 HL.out)
  obtain ⟨sd, hz⟩ : ∃ x : ByteArray, (⟨(rText (l, c)).2.toArray⟩ : ByteArray) = x := ⟨_, rfl⟩
  rw [hz]
  have HZ : Hid ((rText (l, c)).2 = sd.data.toList) := hide (by rw [← hz])
  have k2 : w2.cell? ⟨bp, 0, none⟩ = some (at0 b) := by rw [World.cell?_of_block (ht2.block bp (block_lt_of_cell h1) (by simpa using HBP.out))]; exact h1
  clear hz hr2 ht2
  refine hK.out _ _ (k2) (fun hS2 => ?_)
  clear hK K
  try simp only [Act.put, List.getElem_toArray, List.getElem_cons_zero, List.getElem_cons_succ, List.setIfInBounds_toArray, List.set_cons_zero, List.set_cons_succ]
  refine wpAnyH_ready (rs := [3]) (by kernel_rfl) (by simp) ?_
  refine AllReadyH.cons rfl (fun K hK => ?_) AllReadyH.nil
  go_simp
  refine (dmsg_c sd w2 (by have := HSZ.out; rw [HZ.out, Array.length_toList] at this; exact this)).mono ?_
  rintro e w3 ⟨A, n, cc, z, rfl, hes, hb3⟩
  have HES := hide (hes.lower HT2.out.size)
  have HB3 := hide (HB2.out.step hb3)
  have HR3 := hide (HR2.out.step hb3)
  have HT3 := hide (HT2.out.step hb3)
  have k3 : w3.cell? ⟨bp, 0, none⟩ = some (at0 b) := by rw [World.cell?_of_block (hb3.block bp (block_lt_of_cell k2))]; exact k2
  obtain ⟨gm, hgm⟩ : ∃ x, dMsg sd.data.toList = x := ⟨_, rfl⟩
  rw [hgm] at HES
  rw [hgm]
  have HGM : Hid (dMsg (rText (l, c)).2 = gm) := hide (by rw [HZ.out]; exact hgm)
  clear hgm hes hb3 hS2 k2
  refine hK.out _ _ (k3) (fun hS3 => ?_)
  clear hK K
  try simp only [Act.put, List.getElem_toArray, List.getElem_cons_zero, List.getElem_cons_succ, List.setIfInBounds_toArray, List.set_cons_zero, List.set_cons_succ]
  refine wpAnyH_take (i := 4) (v := ?vma4) rfl (by kernel_rfl) (by kernel_rfl) (by kernel_rfl) (fun _ _ _ h => h) (Or.inl ⟨by rfl, ?hyma4⟩) (by assumption) ?restma4
  case hyma4 => (intro w hSw; (try dsimp only at hSw); go_simp; first | done | (with_reducible rfl))
  try simp only [Act.put, List.getElem_toArray, List.getElem_cons_zero, List.getElem_cons_succ, List.setIfInBounds_toArray, List.set_cons_zero, List.set_cons_succ]
  refine wpAnyH_take (i := 5) (v := ?vma5) rfl (by kernel_rfl) (by kernel_rfl) (by kernel_rfl) (fun _ _ _ h => h) (Or.inl ⟨by rfl, ?hyma5⟩) (by assumption) ?restma5
  case hyma5 => (intro w hSw; (try dsimp only at hSw); go_simp; first | done | (with_reducible rfl))
  try simp only [Act.put, List.getElem_toArray, List.getElem_cons_zero, List.getElem_cons_succ, List.setIfInBounds_toArray, List.set_cons_zero, List.set_cons_succ]
  refine wpAnyH_take (i := 6) (v := ?vma6) rfl (by kernel_rfl) (by kernel_rfl) (by kernel_rfl) (fun _ _ _ h => h) (Or.inl ⟨by rfl, ?hyma6⟩) (by assumption) ?restma6
  case hyma6 => (intro w hSw; (try dsimp only at hSw); go_simp; first | done | (with_reducible rfl))
  try simp only [Act.put, List.getElem_toArray, List.getElem_cons_zero, List.getElem_cons_succ, List.setIfInBounds_toArray, List.set_cons_zero, List.set_cons_succ]
  refine wpAnyH_take (i := 7) (v := ?vma7) rfl (by kernel_rfl) (by kernel_rfl) (by kernel_rfl) (fun _ _ _ h => h) (Or.inl ⟨by rfl, ?hyma7⟩) (by assumption) ?restma7
  case hyma7 => (intro w hSw; (try dsimp only at hSw); go_simp; first | done | (with_reducible rfl))
  try simp only [Act.put, List.getElem_toArray, List.getElem_cons_zero, List.getElem_cons_succ, List.setIfInBounds_toArray, List.set_cons_zero, List.set_cons_succ]
  refine wpAnyH_take (i := 8) (v := ?vma8) rfl (by kernel_rfl) (by kernel_rfl) (by kernel_rfl) (fun _ _ _ h => h) (Or.inl ⟨by rfl, ?hyma8⟩) (by assumption) ?restma8
  case hyma8 => (intro w hSw; (try dsimp only at hSw); go_simp; first | done | (with_reducible rfl))
  try simp only [Act.put, List.getElem_toArray, List.getElem_cons_zero, List.getElem_cons_succ, List.setIfInBounds_toArray, List.set_cons_zero, List.set_cons_succ]
  refine wpAnyH_ready (rs := [9]) (by kernel_rfl) (by simp) ?_
  refine AllReadyH.cons rfl (fun K hK => ?_) AllReadyH.nil
  refine step_store_part rfl 39 (.tmp 11) (.tmp 8) rfl b 34 41 cs (gmCs gm (.slice A n cc)) (.agg (gmCs gm (.slice A n cc)).toArray) rfl rfl (fits_agg _) HB3.out (by rw [HOF.out]; exact Nat.le_refl 47) size_gm (gmCs_one gm A n cc) ?_
  intro w4 hb4 ht4
  have HB4 := hide hb4
  have HT4 := hide ht4
  have k4 : w4.cell? ⟨bp, 0, none⟩ = some (at0 b) := by rw [World.cell?_of_block (ht4.block bp (block_lt_of_cell k3) (by simpa using HBB.out))]; exact k3
  clear hb4 ht4
  refine hK.out _ _ (k4) (fun hS9 => ?_)
  clear hK K
  try simp only [Act.put, List.getElem_toArray, List.getElem_cons_zero, List.getElem_cons_succ, List.setIfInBounds_toArray, List.set_cons_zero, List.set_cons_succ]
  refine wpAnyH_done (by kernel_rfl) ?_ _
  clear hS0
  go_end0
  exact ⟨rfl, HR3.out.touch HT4.out (by simpa using Ne.symm HGB.out) (fun y hy hm => HKG.out (by rw [hy]; simpa using hm)), A, n, cc, by rw [HGM.out]; exact HB4.out, by rw [HGM.out]; exact HES.out.touch HT4.out (fun s hs => by rw [List.mem_singleton.1 hs]; exact HBL.out), ((Touch.refl [b, rb] w).drew.next HT3.out (fun s hs => .inl (List.mem_cons_of_mem _ hs))).next HT4.out (fun s hs => .inl (by simp only [List.mem_singleton] at hs; simp [hs]))⟩
end Go.Proofs.Ytpbgelhjbfckcaa
/- A message that is being read: plain words, cells, what each field reads. -/
namespace Go.Proofs.Ytpbgelhjbfckcaa
open Go.ChangeShapes Go.WideShapes Go.ChangeAt Go.RowKit
set_option maxRecDepth 100000
set_option linter.unusedVariables false
set_option linter.unusedSimpArgs false

def upd {α : Type} (f : Nat → α) (o : Nat) (x : α) : Nat → α := fun i => if i = o then x else f i
def updN {α : Type} (f : Nat → α) (ps : List (Nat × α)) : Nat → α := ps.foldl (fun f p => upd f p.1 p.2) f
theorem upd_same {α : Type} (f : Nat → α) (o : Nat) (x : α) : upd f o x o = x := if_pos rfl
theorem upd_other {α : Type} (f : Nat → α) {o i : Nat} (x : α) (h : i ≠ o) : upd f o x i = f i := if_neg h
theorem updN_other {α : Type} (ps : List (Nat × α)) (f : Nat → α) (i : Nat) (h : ∀ p ∈ ps, p.1 ≠ i) : updN f ps i = f i := by
  induction ps generalizing f with
  | nil => rfl
  | cons p r ih =>
    show updN (upd f p.1 p.2) r i = _
    rw [ih _ (fun q hq => h q (by simp [hq])), upd_other _ _ (Ne.symm (h p (by simp)))]
/-- A message in plain words. -/
structure PM where
  n : Nat → Int
  li : Nat → List Int
  body : ByteArray
  gr : Bool
  dn : Bool
  d : ByteArray
  l : List En
/-- Its cells; what they point to lies from A0 on. -/
structure MsgA (w : World) (A0 : Nat) (cs : List Value) (p : PM) : Prop where
  len : cs.length = 47
  N : ∀ o ∈ iOffs, cs[o]? = some (.int .i64 (p.n o)) ∧ I64 (p.n o)
  S : ∀ o ∈ lOffs, ∃ A n c, cs[o]? = some (.slice A n c) ∧ LiAB w A0 w.heap.size (.slice A n c) (p.li o)
  body : cs[5]? = some (.string p.body)
  gr : cs[42]? = some (.bool p.gr)
  dn : cs[46]? = some (.bool p.dn)
  d : cs[45]? = some (.string p.d)
  E : ∃ A n c, cs[43]? = some (.slice A n c) ∧ EsAB w A0 (.slice A n c) p.l
section
variable {w w' : World} {A0 : Nat} {cs : List Value} {p : PM}
theorem MsgA.touch {S : List Nat} (h : MsgA w A0 cs p) (k : Touch S w w') (hS : ∀ s ∈ S, s < A0) : MsgA w' A0 cs p :=
  ⟨h.len, h.N, fun o ho => by obtain ⟨A, n, c, e, hl⟩ := h.S o ho; exact ⟨A, n, c, e, hl.touch k (Nat.le_refl _) hS⟩, h.body, h.gr, h.dn, h.d, by obtain ⟨A, n, c, e, hl⟩ := h.E; exact ⟨A, n, c, e, hl.touch k hS⟩⟩
theorem set_ne {o i : Nat} {v : Value} (h : i ≠ o) : (cs.set o v)[i]? = cs[i]? := by rw [List.getElem?_set, if_neg (Ne.symm h)]
theorem set_eq {o : Nat} {v : Value} (h : o < cs.length) : (cs.set o v)[o]? = some v := by rw [List.getElem?_set, if_pos rfl, if_pos h]
theorem off_lt : ∀ o ∈ iOffs, o < 47 := by decide
theorem off_ltL : ∀ o ∈ lOffs, o < 47 := by decide
theorem off_ne : ∀ o ∈ iOffs, ∀ i ∈ lOffs, i ≠ o := by decide
theorem off_sp : ∀ o ∈ iOffs, o ≠ 5 ∧ o ≠ 42 ∧ o ≠ 46 ∧ o ≠ 45 ∧ o ≠ 43 := by decide
theorem off_spL : ∀ o ∈ lOffs, o ≠ 5 ∧ o ≠ 42 ∧ o ≠ 46 ∧ o ≠ 45 ∧ o ≠ 43 := by decide
theorem MsgA.num (h : MsgA w A0 cs p) {o : Nat} {x : Int} (ho : o ∈ iOffs) (hx : I64 x) : MsgA w A0 (cs.set o (.int .i64 x)) { p with n := upd p.n o x } := by
  have hlt : o < cs.length := by rw [h.len]; exact off_lt o ho
  have hne := off_sp o ho
  refine ⟨by rw [List.length_set]; exact h.len, fun i hi => ?_, fun i hi => ?_, ?_, ?_, ?_, ?_, ?_⟩
  · by_cases e : i = o
    · subst e
      exact ⟨by rw [set_eq hlt]; show _ = some (Value.int .i64 (upd p.n i x i)); rw [upd_same], by show I64 (upd p.n i x i); rw [upd_same]; exact hx⟩
    · exact ⟨by rw [set_ne e]; show _ = some (Value.int .i64 (upd p.n o x i)); rw [upd_other _ _ e]; exact (h.N i hi).1, by show I64 (upd p.n o x i); rw [upd_other _ _ e]; exact (h.N i hi).2⟩
  · rw [set_ne (off_ne o ho i hi)]; exact h.S i hi
  · rw [set_ne (Ne.symm hne.1)]; exact h.body
  · rw [set_ne (Ne.symm hne.2.1)]; exact h.gr
  · rw [set_ne (Ne.symm hne.2.2.1)]; exact h.dn
  · rw [set_ne (Ne.symm hne.2.2.2.1)]; exact h.d
  · rw [set_ne (Ne.symm hne.2.2.2.2)]; exact h.E
theorem MsgA.nums (ps : List (Nat × Int)) (hp : ∀ q ∈ ps, q.1 ∈ iOffs ∧ I64 q.2) : ∀ {cs : List Value} {p : PM}, MsgA w A0 cs p → MsgA w A0 (setI cs ps) { p with n := updN p.n ps } := by
  induction ps with
  | nil => intro cs p h; exact h
  | cons q r ih =>
    intro cs p h
    exact ih (fun y hy => hp y (by simp [hy])) (h.num (hp q (by simp)).1 (hp q (by simp)).2)
theorem MsgA.list (h : MsgA w A0 cs p) {o : Nat} {A : Option Addr} {n c : Nat} {l : List Int} (ho : o ∈ lOffs) (hl : LiAB w A0 w.heap.size (.slice A n c) l) : MsgA w A0 (cs.set o (.slice A n c)) { p with li := upd p.li o l } := by
  have hlt : o < cs.length := by rw [h.len]; exact off_ltL o ho
  have hne := off_spL o ho
  refine ⟨by rw [List.length_set]; exact h.len, fun i hi => ?_, fun i hi => ?_, ?_, ?_, ?_, ?_, ?_⟩
  · rw [set_ne (Ne.symm (off_ne i hi o ho))]; exact h.N i hi
  · by_cases e : i = o
    · subst e
      exact ⟨A, n, c, by rw [set_eq hlt], by show LiAB w A0 _ _ (upd p.li i l i); rw [upd_same]; exact hl⟩
    · rw [set_ne e]
      show ∃ A n c, _ ∧ LiAB w A0 _ _ (upd p.li o l i)
      rw [upd_other _ _ e]; exact h.S i hi
  · rw [set_ne (Ne.symm hne.1)]; exact h.body
  · rw [set_ne (Ne.symm hne.2.1)]; exact h.gr
  · rw [set_ne (Ne.symm hne.2.2.1)]; exact h.dn
  · rw [set_ne (Ne.symm hne.2.2.2.1)]; exact h.d
  · rw [set_ne (Ne.symm hne.2.2.2.2)]; exact h.E
theorem MsgA.lists : ∀ (ls : List Nat) (vs : List Value) (lss : List (List Int)), (∀ o ∈ ls, o ∈ lOffs) → VsAt w A0 vs lss → ∀ {cs : List Value} {p : PM}, MsgA w A0 cs p → MsgA w A0 (setV cs (ls.zip vs)) { p with li := updN p.li (ls.zip lss) }
  | [], _, _, _, _ => fun h => by simpa [setV, updN] using h
  | o :: ls, [], lss, _, hv => fun h => by
    have e : lss = [] := List.eq_nil_of_length_eq_zero (by rw [← hv.1]; rfl)
    subst e
    simpa [setV, updN] using h
  | o :: ls, v :: vs, [], _, hv => by cases hv.1
  | o :: ls, v :: vs, l :: lss, hls, hv => fun h => by
    have h0 := hv.2 0 (by simp) (by simp)
    simp only [List.getElem_cons_zero] at h0
    obtain ⟨A, n, c, rfl⟩ := h0.formN
    have ht : VsAt w A0 vs lss := ⟨by simpa using hv.1, fun i h1 h2 => by have := hv.2 (i + 1) (by simpa using h1) (by simpa using h2); simpa using this⟩
    exact MsgA.lists ls vs lss (fun x hx => hls x (by simp [hx])) ht (h.list (hls o (by simp)) h0)
theorem MsgA.text (h : MsgA w A0 cs p) (s : ByteArray) : MsgA w A0 (cs.set 5 (.string s)) { p with body := s } := by
  refine ⟨by rw [List.length_set]; exact h.len, fun i hi => ?_, fun i hi => ?_, ?_, ?_, ?_, ?_, ?_⟩
  · rw [set_ne (by revert i; decide)]; exact h.N i hi
  · rw [set_ne (by revert i; decide)]; exact h.S i hi
  · exact set_eq (by rw [h.len]; decide)
  · rw [set_ne (by decide)]; exact h.gr
  · rw [set_ne (by decide)]; exact h.dn
  · rw [set_ne (by decide)]; exact h.d
  · rw [set_ne (by decide)]; exact h.E
def withG (p : PM) (g : GM) : PM := { p with n := updN p.n (mOffs.zip g.is), gr := g.gr, dn := g.dn, d := g.d, l := g.l }
theorem gm_at (h : cs.length = 47) (g : GM) (v : Value) (o : Nat) : (cs.take 34 ++ gmCs g v ++ cs.drop (34 + (gmCs g v).length))[o]? = if o < 34 then cs[o]? else (gmCs g v)[o - 34]? := by
  have h2 : (gmCs g v).length = 13 := rfl
  have h3 : cs.drop (34 + (gmCs g v).length) = [] := List.drop_eq_nil_of_le (by rw [h, h2]; exact Nat.le_refl _)
  rw [h3, List.append_nil]
  by_cases ho : o < 34
  · rw [if_pos ho, List.getElem?_append_left (by rw [List.length_take, h]; omega), List.getElem?_take, if_pos ho]
  · rw [if_neg ho, List.getElem?_append_right (by rw [List.length_take, h]; omega), List.length_take, h]
    rfl
theorem MsgA.gm (h : MsgA w A0 cs p) (g : GM) (h9 : g.is.length = 9) (hi : ∀ x ∈ g.is, I64 x) {A : Option Addr} {n c : Nat} (he : EsAB w A0 (.slice A n c) g.l) : MsgA w A0 (cs.take 34 ++ gmCs g (.slice A n c) ++ cs.drop (34 + (gmCs g (.slice A n c)).length)) (withG p g) := by
  obtain ⟨i0, i1, i2, i3, i4, i5, i6, i7, i8, hg⟩ := list9 h9
  refine ⟨?_, fun o ho => ?_, fun o ho => ?_, ?_, ?_, ?_, ?_, ?_⟩
  · rw [List.length_append, List.length_append, List.length_take, List.length_drop, h.len]; rfl
  · rw [gm_at h.len]
    by_cases hm : o ∈ mOffs
    · have hi' : ∀ x ∈ [i0, i1, i2, i3, i4, i5, i6, i7, i8], I64 x := hg ▸ hi
      have hcs : gmCs g (.slice A n c) = [.int .i64 i0, .int .i64 i1, .int .i64 i2, .int .i64 i3, .int .i64 i4, .int .i64 i5, .int .i64 i6, .int .i64 i7, .bool g.gr, .slice A n c, .int .i64 i8, .string g.d, .bool g.dn] := by unfold gmCs; rw [hg]; rfl
      rw [hcs]
      have hu : (withG p g).n = updN p.n (mOffs.zip [i0, i1, i2, i3, i4, i5, i6, i7, i8]) := by unfold withG; rw [hg]
      rw [hu]
      simp only [mOffs, List.mem_cons, List.not_mem_nil, or_false] at hm
      rcases hm with rfl | rfl | rfl | rfl | rfl | rfl | rfl | rfl | rfl <;> exact ⟨rfl, hi' _ (by simp [updN, upd, mOffs])⟩
    · have h34 : o < 34 := by revert o; decide
      have hu : (withG p g).n o = p.n o := updN_other _ _ _ (fun q hq e => hm (by
        obtain ⟨a, b⟩ := q
        have := (List.of_mem_zip hq).1
        exact e ▸ this))
      rw [if_pos h34, hu]
      exact h.N o ho
  · rw [gm_at h.len, if_pos (by revert o; decide)]; exact h.S o ho
  · rw [gm_at h.len, if_pos (by decide)]; exact h.body
  · rw [gm_at h.len, if_neg (by decide)]; rfl
  · rw [gm_at h.len, if_neg (by decide)]; rfl
  · rw [gm_at h.len, if_neg (by decide)]; rfl
  · exact ⟨A, n, c, by rw [gm_at h.len, if_neg (by decide)]; rfl, he⟩
end
/-! ### what each field reads -/
def rNumF (o : Nat) (p : PM) (r : RS) : PM × RS := ({ p with n := upd p.n o (rInt r).2 }, (rInt r).1)
def rPart (ns ls : List Nat) (p : PM) (r : RS) : PM × RS :=
  ({ p with n := updN p.n (ns.zip (rList ns.length r).2), li := updN p.li (ls.zip (rLists ls.length (rList ns.length r).1).2) }, (rLists ls.length (rList ns.length r).1).1)
def rUnit (p : PM) (r : RS) : PM × RS := ({ p with n := upd (updN p.n ([13, 14, 15].zip (rList 3 r).2)) 16 (rInt (rList 3 r).1).2 }, (rInt (rList 3 r).1).1)
def rF (k : Nat) (p : PM) (r : RS) : PM × RS :=
  match k with
  | 0 => rNumF 1 p r
  | 1 => rNumF 2 p r
  | 2 => rNumF 3 p r
  | 3 => rNumF 4 p r
  | 4 => rNumF 6 p r
  | 5 => rNumF 7 p r
  | 6 => rNumF 8 p r
  | 7 => ({ p with body := ⟨(rText r).2.toArray⟩ }, (rText r).1)
  | 8 => rNumF 17 p r
  | 9 => rPart [9, 10] [11, 12] p r
  | 10 => rUnit p r
  | 11 => rPart [] [33] p r
  | 12 => rPart [18, 19, 20, 21, 22, 23, 24, 25] [26, 27, 28, 29, 30, 31, 32] p r
  | _ => (withG p (dMsg (rText r).2), (rText r).1)
theorem dMsg_is (s : List UInt8) : (dMsg s).is.length = 9 ∧ ∀ x ∈ (dMsg s).is, I64 x := by
  unfold dMsg
  split
  · exact ⟨rList_size 9 _, rList_i64 9 _⟩
  · exact ⟨rfl, fun x hx => by simp only [gm0, List.mem_cons, List.not_mem_nil, or_false, or_self] at hx; subst hx; exact ⟨by decide, by decide⟩⟩
/-- What a field's read leaves. -/
def GotF (w : World) (A0 : Nat) (L : LB) (b bm rb : Nat) (kk : Option Nat) (x : PM × RS) (e : Ending) (w' : World) : Prop :=
  e = .returned (.tuple #[]) ∧ ∃ cs', FB w' A0 L b bm cs' ∧ MsgA w' A0 cs' x.1 ∧ Rd w' rb kk x.2.1 x.2.2 ∧ Touch [b, rb] w w'
theorem FB.turn {w w' : World} {A0 : Nat} {L : LB} {b bm : Nat} {cs cs' : List Value} {S : List Nat} (h : FB w A0 L b bm cs) (k : Touch S w w') (hS : ∀ e ∈ L, e.1 ∉ S) (hB : Blk w' b 41 cs'.toArray) : FB w' A0 L b bm cs' :=
  ⟨fun e he => ⟨(h.blks e he).1, (h.blks e he).2.touch k (hS e he)⟩, h.bm, h.msg.1, hB⟩
theorem unit_off : ∀ x ∈ [13, 14, 15], x ∈ iOffs := by decide
theorem ent_n2 : Ent 89 := enters Try.func89 (by kernel_rfl) (by kernel_rfl)
theorem ent_p2 : Ent 84 := enters Try.func84 (by kernel_rfl) (by kernel_rfl)
theorem ent_f2 : Ent 54 := enters Try.func54 (by kernel_rfl) (by kernel_rfl)
theorem ent_f7 : Ent 63 := enters Try.func63 (by kernel_rfl) (by kernel_rfl)
theorem ent_f11 : Ent 68 := enters Try.func68 (by kernel_rfl) (by kernel_rfl)
theorem ent_f14 : Ent 73 := enters Try.func73 (by kernel_rfl) (by kernel_rfl)
section
attribute [local irreducible] rList rGL rText rCnt rBool rEns rInt rLists rInts dMsg
variable {w : World} {A0 : Nat} {L : LB} {b bm rb : Nat} {kk : Option Nat} {cs : List Value} {p : PM} {r : RS}
/-- What holds ahead of a field's read. -/
structure PreF (w : World) (A0 : Nat) (L : LB) (b bm rb : Nat) (kk : Option Nat) (cs : List Value) (p : PM) (r : RS) : Prop where
  fb : FB w A0 L b bm cs
  ms : MsgA w A0 cs p
  rd : Rd w rb kk r.1 r.2
  ne : ∀ e ∈ L, e.1 ≠ b ∧ e.1 ≠ rb
  br : b ≠ rb
  kb : kk ≠ some b
  kA : ∀ y, kk = some y → y < A0
  rA : rb < A0
  sz : A0 ≤ w.heap.size
  len : r.1.length ≤ 1000000000
theorem PreF.kw (h : PreF w A0 L b bm rb kk cs p r) : ∀ y, kk = some y → y < w.heap.size := fun y hy => Nat.lt_of_lt_of_le (h.kA y hy) h.sz
theorem PreF.low (h : PreF w A0 L b bm rb kk cs p r) : ∀ s ∈ [b, rb], s < A0 := fun s hs => by
  simp only [List.mem_cons, List.not_mem_nil, or_false] at hs
  rcases hs with rfl | rfl
  · exact h.fb.msg.1
  · exact h.rA
theorem PreF.nin (h : PreF w A0 L b bm rb kk cs p r) : ∀ e ∈ L, e.1 ∉ [b, rb] := fun e he => by
  simp only [List.mem_cons, List.not_mem_nil, or_false, not_or]; exact h.ne e he
theorem num_r (h : PreF w A0 L b bm rb kk cs p r) {o bp : Nat} (ho : o ∈ iOffs) (hbp : (bp, 121, [.pointer (some ⟨b, o, none⟩)]) ∈ L) : Calls Try.prog 89 #[at0 rb, at0 bp] w (GotF w A0 L b bm rb kk (rNumF o p r)) := by
  have hn := h.ne _ hbp
  refine (nread_c rb kk r.1 r.2 b bp o _ cs w h.rd (h.fb.box hbp) hn.2 hn.1 h.fb.msg.2 h.br h.kb h.kw h.len (by rw [h.ms.len]; exact off_lt o ho)).mono ?_
  rintro e w' ⟨rfl, h1, h2, h3⟩
  exact ⟨rfl, _, h.fb.turn h3 h.nin h2, (h.ms.touch h3 h.low).num ho (rInt_i64 r), h1, h3⟩
theorem ptr_ne {t : TypeId} {offs : List Nat} {v : Value} (hn : ∀ e ∈ L, e.1 ≠ b ∧ e.1 ≠ rb) (h : PtrL L t b offs v) : ∀ q, v.ownBlock = some q → q ≠ b ∧ q ≠ rb := by
  intro q hq
  rcases h with ⟨_, rfl⟩ | ⟨g, rfl, hm⟩
  · cases hq
  · injection hq with hq
    subst hq
    exact hn _ hm
theorem part_r (h : PreF w A0 L b bm rb kk cs p r) {ns ls : List Nat} {bn bl : Nat} (hp : PartB L b ns ls bn bl) (h1 : ns.length ≤ 100) (h2 : ls.length ≤ 100) (hn : ∀ o ∈ ns, o ∈ iOffs) (hl : ∀ o ∈ ls, o ∈ lOffs) : Calls Try.prog 84 #[at0 rb, at0 bn, at0 bl] w (GotF w A0 L b bm rb kk (rPart ns ls p r)) := by
  obtain ⟨vn, vl, q1, q2, q3, q4⟩ := hp
  refine (pread_c rb kk r.1 r.2 b _ cs ns ls bn bl vn vl A0 w h.rd (h.fb.box q1) (h.fb.box q2) (q3.ptrs h.fb.all h1) (q4.ptrs h.fb.all h2) (ptr_ne h.ne q3) (ptr_ne h.ne q4) (h.ne _ q2) h.fb.msg.2 h.br h.kb h.kw h.len (fun o ho => by rw [h.ms.len]; exact off_lt o (hn o ho)) (fun o ho => by rw [h.ms.len]; exact off_ltL o (hl o ho)) ⟨h.fb.msg.1, h.rA, h.sz⟩).mono ?_
  rintro e w' ⟨rfl, vs, hv, h3, h4, h5⟩
  refine ⟨rfl, _, h.fb.turn h5 h.nin h4, ?_, h3, h5⟩
  have m1 := (h.ms.touch h5 h.low).nums (ns.zip (rList ns.length r).2) (fun q hq => by
    obtain ⟨x, y⟩ := q
    have := List.of_mem_zip hq
    exact ⟨hn _ this.1, rList_i64 _ _ _ this.2⟩)
  exact MsgA.lists ls vs _ hl hv m1
theorem field_r {k : Nat} {v : Value} (hk : k < 14) (hv : FValI L b bm k v) (h : PreF w A0 L b bm rb kk cs p r) :
    ∃ fw fr fz fo cw cr cz co, v = .agg (fv fw fr fz fo cw cr cz co).toArray ∧ Ent fr ∧ Calls Try.prog fr (#[at0 rb] ++ cr.toArray) w (GotF w A0 L b bm rb kk (rF k p r)) := by
  have hbm := h.fb.box h.fb.bm
  have hbn := h.ne _ h.fb.bm
  have num : ∀ (o : Nat) (lo hi : Int), o ∈ iOffs → NumF L b o lo hi v → ∃ fw fr fz fo cw cr cz co, v = .agg (fv fw fr fz fo cw cr cz co).toArray ∧ Ent fr ∧ Calls Try.prog fr (#[at0 rb] ++ cr.toArray) w (GotF w A0 L b bm rb kk (rNumF o p r)) := fun o lo hi ho hf => by
    obtain ⟨bp, bl, bh, rfl, h1, h2, h3⟩ := hf
    exact ⟨_, _, _, _, _, _, _, _, rfl, ent_n2, num_r h ho h1⟩
  have : k = 0 ∨ k = 1 ∨ k = 2 ∨ k = 3 ∨ k = 4 ∨ k = 5 ∨ k = 6 ∨ k = 7 ∨ k = 8 ∨ k = 9 ∨ k = 10 ∨ k = 11 ∨ k = 12 ∨ k = 13 := by omega
  rcases this with rfl | rfl | rfl | rfl | rfl | rfl | rfl | rfl | rfl | rfl | rfl | rfl | rfl | rfl
  · exact num 1 0 8 (by decide) hv
  · exact num 2 1 8 (by decide) hv
  · exact num 3 1 9223372036854775807 (by decide) hv
  · exact num 4 0 17 (by decide) hv
  · exact num 6 0 9223372036854775807 (by decide) hv
  · exact num 7 1 9223372036854775807 (by decide) hv
  · exact num 8 1 9223372036854775807 (by decide) hv
  · refine ⟨_, _, _, _, _, _, _, _, hv, ent_f7, ?_⟩
    refine (bread_c rb kk r.1 r.2 b bm cs w h.rd hbm hbn.2 hbn.1 h.fb.msg.2 h.br h.kb h.kw h.len (by rw [h.ms.len]; decide)).mono ?_
    rintro e w' ⟨rfl, h1, h2, h3⟩
    exact ⟨rfl, _, h.fb.turn h3 h.nin h2, (h.ms.touch h3 h.low).text _, h1, h3⟩
  · refine ⟨_, _, _, _, _, _, _, _, hv, ent_f11, ?_⟩
    refine (vread_c rb kk r.1 r.2 b bm cs w h.rd hbm hbn.2 hbn.1 h.fb.msg.2 h.br h.kb h.kw h.len (by rw [h.ms.len]; decide)).mono ?_
    rintro e w' ⟨rfl, h1, h2, h3⟩
    exact ⟨rfl, _, h.fb.turn h3 h.nin h2, (h.ms.touch h3 h.low).num (by decide) (rInt_i64 r), h1, h3⟩
  · obtain ⟨bn, bl, rfl, hp⟩ := hv
    exact ⟨_, _, _, _, _, _, _, _, rfl, ent_p2, part_r h hp (by decide) (by decide) (by decide) (by decide)⟩
  · obtain ⟨b7, b8, b9, bn, bl, rfl, h7, h8, h9, vn, vl, q1, q2, q3, q4⟩ := hv
    refine ⟨_, _, _, _, _, _, _, _, rfl, ent_f2, ?_⟩
    refine (uread_c rb kk r.1 r.2 b bm b8 bn bl vn vl cs A0 w h.rd (h.fb.box h8) hbm (h.fb.box q1) (h.fb.box q2) (q3.ptrs h.fb.all (by decide)) (q4.ptrs h.fb.all (by decide)) (ptr_ne h.ne q3) (ptr_ne h.ne q4) (h.ne _ q2) hbn h.fb.msg.2 h.br h.kb h.kw h.len h.ms.len ⟨h.fb.msg.1, h.rA, h.sz⟩).mono ?_
    rintro e w' ⟨rfl, h3, h4, h5⟩
    refine ⟨rfl, _, h.fb.turn h5 h.nin h4, ?_, h3, h5⟩
    have m1 := (h.ms.touch h5 h.low).nums ([13, 14, 15].zip (rList 3 r).2) (fun q hq => by
      obtain ⟨x, y⟩ := q
      have := List.of_mem_zip hq
      exact ⟨unit_off x this.1, rList_i64 _ _ _ this.2⟩)
    exact m1.num (by decide) (rInt_i64 _)
  · obtain ⟨bn, bl, rfl, hp⟩ := hv
    exact ⟨_, _, _, _, _, _, _, _, rfl, ent_p2, part_r h hp (by decide) (by decide) (by decide) (by decide)⟩
  · obtain ⟨bn, bl, rfl, hp⟩ := hv
    exact ⟨_, _, _, _, _, _, _, _, rfl, ent_p2, part_r h hp (by decide) (by decide) (by decide) (by decide)⟩
  · refine ⟨_, _, _, _, _, _, _, _, hv, ent_f14, ?_⟩
    refine (mread_c rb kk r.1 r.2 b bm cs w h.rd hbm hbn.2 hbn.1 h.fb.msg.2 h.br h.kb h.kw h.len h.ms.len).mono ?_
    rintro e w' ⟨rfl, h1, A, n, cc, h2, hes, h3⟩
    exact ⟨rfl, _, h.fb.turn h3 h.nin h2, (h.ms.touch h3 h.low).gm _ (dMsg_is _).1 (dMsg_is _).2 (hes.lower h.sz), h1, h3⟩
end
end Go.Proofs.Ytpbgelhjbfckcaa
/- A client in memory: its four numbers and the open request; New, send. -/
namespace Go.Proofs.Ytpbgelhjbfckcaa
set_option linter.unusedSimpArgs false
open Go.ChangeShapes Go.WideShapes Go.ChangeAt Go.RowKit
set_option linter.unusedVariables false

/-- The state of a client: the open request is a row of 47 cells. -/
structure CS where
  id : Int
  machines : Int
  target : Int
  number : Int
  opened : Option (List Value)
structure CS.Ok (S : CS) : Prop where
  id : 1 ≤ S.id ∧ S.id ≤ 8
  machines : 1 ≤ S.machines ∧ S.machines ≤ 16
  target : 1 ≤ S.target ∧ S.target ≤ S.machines
  number : 0 ≤ S.number ∧ S.number ≤ 1000000
  opened : ∀ cs, S.opened = some cs → cs.length = 47 ∧ cs.toArray.all (·.oneCell') = true
/-- Block g is the client S. -/
structure Cl (w : World) (g : Nat) (S : CS) (p : Value) : Prop where
  blk : Blk w g 74 #[.int .i64 S.id, .int .i64 S.machines, .int .i64 S.target, .int .i64 S.number, p]
  ok : S.Ok
  shut : S.opened = none → p = .pointer none
  opened : ∀ cs, S.opened = some cs → ∃ b, b ≠ g ∧ p = .pointer (some ⟨b, 0, none⟩) ∧ Blk w b 41 cs.toArray
theorem Cl.lt {w : World} {g : Nat} {S : CS} {p : Value} (h : Cl w g S p) : g < w.heap.size := h.blk.lt
theorem Cl.step {w w' : World} {g : Nat} {S : CS} {p : Value} (h : Cl w g S p) (hb : Below w.heap.size w w') : Cl w' g S p :=
  ⟨h.blk.step hb, h.ok, h.shut, fun cs hc => by obtain ⟨b, h1, h2, h3⟩ := h.opened cs hc; exact ⟨b, h1, h2, h3.step hb⟩⟩
theorem Cl.cells {w : World} {g : Nat} {S : CS} {p : Value} (h : Cl w g S p) :
    w.cell? ⟨g, 0, none⟩ = some (.int .i64 S.id) ∧ w.cell? ⟨g, 1, none⟩ = some (.int .i64 S.machines) ∧ w.cell? ⟨g, 2, none⟩ = some (.int .i64 S.target) ∧ w.cell? ⟨g, 3, none⟩ = some (.int .i64 S.number) ∧ w.cell? ⟨g, 4, none⟩ = some p ∧
    w.frozen? ⟨g, 0, none⟩ = false ∧ w.frozen? ⟨g, 1, none⟩ = false ∧ w.frozen? ⟨g, 2, none⟩ = false ∧ w.frozen? ⟨g, 3, none⟩ = false ∧ w.frozen? ⟨g, 4, none⟩ = false :=
  ⟨h.blk.cell 0, h.blk.cell 1, h.blk.cell 2, h.blk.cell 3, h.blk.cell 4, h.blk.froz 0, h.blk.froz 1, h.blk.froz 2, h.blk.froz 3, h.blk.froz 4⟩

def csNew (i n : Int) : CS := ⟨i, n, 1, 0, none⟩

theorem run_build_client (a b : Int) (w : World) : (Instr.build 74 #[(0, .int .i64 a), (1, .int .i64 b), (2, .int .i64 1)]).run Try.prog w = .ok (.agg #[.int .i64 a, .int .i64 b, .int .i64 1, zi, .pointer none]) w :=
  run_build w _ _ _ (built_client a b)
def NewCl (w : World) (i n : Int) (e : Ending) (w' : World) : Prop := e = .returned (.pointer (some ⟨w.heap.size, 0, none⟩)) ∧ Cl w' w.heap.size (csNew i n) (.pointer none) ∧ Below w.heap.size w w'
theorem new_c (i n : Int) (hi : 1 ≤ i ∧ i ≤ 8) (hn : 1 ≤ n ∧ n ≤ 16) (w : World) : Calls Try.prog 9 #[.int .i64 i, .int .i64 n] w (NewCl w i n) := by
  obtain ⟨i1, i2⟩ := hi
  obtain ⟨n1, n2⟩ := hn
  have hm := run_build_client i n
  go_enter Try.func9, Try.ntmps9
  go_wp2_with fail
  clear hm
  go_ret
  refine ⟨rfl, ⟨Blk.new _ _ _, ⟨⟨i1, i2⟩, ⟨n1, n2⟩, ⟨Int.le_refl _, n1⟩, ⟨Int.le_refl _, by show (0:Int) ≤ 1000000; decide⟩, by intro cs hc; cases hc⟩, fun _ => rfl, by intro cs hc; cases hc⟩, (Below.refl _ _).alloc (Nat.le_refl _) _⟩

theorem new_bad (i n : Int) (h : ¬ ((1 ≤ i ∧ i ≤ 8) ∧ 1 ≤ n ∧ n ≤ 16)) (w : World) : Calls Try.prog 9 #[.int .i64 i, .int .i64 n] w fun e w' => e = .returned (.pointer none) ∧ w = w' := by
  by_cases h1 : i < 1
  · clear h
    go_enter Try.func9, Try.ntmps9
    go_wp2_with fail
    go_ret
    exact ⟨rfl, rfl⟩
  have h1' : 1 ≤ i := by omega
  by_cases h2 : 8 < i
  · clear h h1
    go_enter Try.func9, Try.ntmps9
    go_wp2_with fail
    go_ret
    exact ⟨rfl, rfl⟩
  have h2' : i ≤ 8 := by omega
  by_cases h3 : n < 1
  · clear h h1 h2
    go_enter Try.func9, Try.ntmps9
    go_wp2_with fail
    go_ret
    exact ⟨rfl, rfl⟩
  have h3' : 1 ≤ n := by omega
  have h4' : 16 < n := by
    rcases Int.lt_or_le 16 n with h4 | h4
    · exact h4
    · exact absurd ⟨⟨h1', h2'⟩, h3', h4⟩ h
  clear h h1 h2 h3
  go_enter Try.func9, Try.ntmps9
  go_wp2_with fail
  go_ret
  exact ⟨rfl, rfl⟩

theorem step_load_blk {P : Program} {w : World} {ops : Array Oper} {o : Oper} {a : Act} {K : Act → World → Prop} {Q : Exit → Act → World → Prop} {E : Prop} (hgd : o.guard = none) (ty : TypeId) (x : Operand) (ho : o.op = .load ty x)
    (g : Nat) (t : TypeId) (cs : Array Value) (d : TypeDesc) (hx : a.eval x = .pointer (some ⟨g, 0, none⟩)) (hb : Blk w g t cs)
    (hu : P.underlying ty = some d) (hd : (match d with | .struct _ | .array _ _ => true | _ => false) = true) (hi : (P.info? ty).map (·.size) = some cs.size)
    (h : K (a.put o.dst (.agg cs)) w) : if Region.wanted o (yielded ops a.tmps) = true then Oper.wp P o a w K Q else E := by
  have hw : Region.wanted o (yielded ops a.tmps) = true := by simp [Region.wanted, hgd]
  rw [if_pos hw]
  exact wp_load_row ty x ho g hx t cs (0, 0) d hb hu hd hi h
theorem step_build {P : Program} {w : World} {ops : Array Oper} {o : Oper} {a : Act} {K : Act → World → Prop} {Q : Exit → Act → World → Prop} {E : Prop} (hgd : o.guard = none) (t : TypeId) (parts : Array (Nat × Operand)) (ho : o.op = .build t parts)
    (vs : List (Nat × Value)) (he : (parts.map fun (i, x) => (i, a.eval x)).toList = vs) (cells : Array Value) (hc : P.built t vs = some cells)
    (h : K (a.put o.dst (.agg cells)) w) : if Region.wanted o (yielded ops a.tmps) = true then Oper.wp P o a w K Q else E := by
  have hw : Region.wanted o (yielded ops a.tmps) = true := by simp [Region.wanted, hgd]
  rw [if_pos hw]
  unfold Oper.wp execOp
  subst he
  simp only [ho, Sem.run_bind, run_build w t _ cells hc, Result.andThen_ok]
  exact h
end Go.Proofs.Ytpbgelhjbfckcaa
/- send: the open request goes to the target. -/
namespace Go.Proofs.Ytpbgelhjbfckcaa
open Go.ChangeShapes Go.WideShapes Go.ChangeAt Go.RowKit
set_option linter.unusedVariables false
set_option linter.unusedSimpArgs false

theorem size_msg {cs : List Value} (h : cs.length = 47) : (Try.prog.info? 41).map (·.size) = some cs.toArray.size := by
  rw [List.size_toArray, h]; kernel_rfl
theorem size_out {cs : List Value} {v : Value} (h : cs.length = 47) : (Try.prog.info? 59).map (·.size) = some (v :: cs).toArray.size := by
  rw [List.size_toArray, List.length_cons, h]; kernel_rfl
theorem one_out {cs : List Value} {T : Int} (h : cs.toArray.all (·.oneCell') = true) : (Value.int .i64 T :: cs).toArray.all (·.oneCell') = true := by
  simpa [Value.oneCell'] using h
/-- What send hands back. -/
def Sent (w : World) (T : Int) (cs : List Value) (e : Ending) (w' : World) : Prop := e = .returned (.agg (.int .i64 T :: cs).toArray) ∧ Below w.heap.size w w'
set_option maxRecDepth 100000 in
set_option maxHeartbeats 1000000 in
theorem send_raw (g b : Nat) (T : Int) (cs : List Value) (w : World) (hg : g < w.heap.size) (h1 : w.cell? ⟨g, 2, none⟩ = some (.int .i64 T)) (h2 : w.cell? ⟨g, 4, none⟩ = some (.pointer (some ⟨b, 0, none⟩))) (hb : Blk w b 41 cs.toArray)
    (hl : cs.length = 47) (hone : cs.toArray.all (·.oneCell') = true) : Calls Try.prog 28 #[.pointer (some ⟨g, 0, none⟩)] w (Sent w T cs) := by
  go_enter Try.func28, Try.ntmps28
  go_wp2_with fail
  have hout := (Blk.new w 59 (zi :: zmsg).toArray).drew
  have key : (fun W => W.cell? ⟨g, 2, none⟩ = some (.int .i64 T) ∧ W.cell? ⟨g, 4, none⟩ = some (.pointer (some ⟨b, 0, none⟩)) ∧ Blk W b 41 cs.toArray ∧ Below w.heap.size w W) (w.alloc (.cells (zi :: zmsg).toArray 59)).drew := ⟨(World.cell?_alloc_lt w _ _ hg).trans h1, (World.cell?_alloc_lt w _ _ hg).trans h2, (hb.alloc _).drew, ((Below.refl _ _).alloc (Nat.le_refl _) _).drew⟩
  refine wp_region_held_drew (S := fun W => W.cell? ⟨g, 2, none⟩ = some (.int .i64 T) ∧ W.cell? ⟨g, 4, none⟩ = some (.pointer (some ⟨b, 0, none⟩)) ∧ Blk W b 41 cs.toArray ∧ Below w.heap.size w W) (by kernel_rfl) (key) (fun hS0 => ?_)
  refine wpAnyH_take (i := 0) (v := ?vs0) rfl (by kernel_rfl) (by kernel_rfl) (by kernel_rfl) (fun _ _ _ h => h) (Or.inl ⟨by rfl, ?hys0⟩) (by assumption) ?rests0
  case hys0 => (intro w hSw; (try dsimp only at hSw); go_simp; first | done | (with_reducible rfl))
  try simp only [Act.put, List.getElem_toArray, List.getElem_cons_zero, List.getElem_cons_succ, List.setIfInBounds_toArray, List.set_cons_zero, List.set_cons_succ]
  refine wpAnyH_take (i := 1) (v := ?vs1) rfl (by kernel_rfl) (by kernel_rfl) (by kernel_rfl) (fun _ _ _ h => h) (Or.inl ⟨by rfl, ?hys1⟩) (by assumption) ?rests1
  case hys1 => (intro w hSw; (try dsimp only at hSw); go_simp; first | done | (with_reducible rfl))
  try simp only [Act.put, List.getElem_toArray, List.getElem_cons_zero, List.getElem_cons_succ, List.setIfInBounds_toArray, List.set_cons_zero, List.set_cons_succ]
  refine wpAnyH_take (i := 2) (v := ?vs2) rfl (by kernel_rfl) (by kernel_rfl) (by kernel_rfl) (fun _ _ _ h => h) (Or.inl ⟨by rfl, ?hys2⟩) (by assumption) ?rests2
  case hys2 => (intro w hSw; (try dsimp only at hSw); go_simp; first | done | (with_reducible rfl))
  try simp only [Act.put, List.getElem_toArray, List.getElem_cons_zero, List.getElem_cons_succ, List.setIfInBounds_toArray, List.set_cons_zero, List.set_cons_succ]
  refine wpAnyH_take (i := 3) (v := ?vs3) rfl (by kernel_rfl) (by kernel_rfl) (by kernel_rfl) (fun _ _ _ h => h) (Or.inl ⟨by rfl, ?hys3⟩) (by assumption) ?rests3
  case hys3 => (intro w hSw; (try dsimp only at hSw); go_simp; first | done | (with_reducible rfl))
  try simp only [Act.put, List.getElem_toArray, List.getElem_cons_zero, List.getElem_cons_succ, List.setIfInBounds_toArray, List.set_cons_zero, List.set_cons_succ]
  refine wpAnyH_take (i := 4) (v := ?vs4) rfl (by kernel_rfl) (by kernel_rfl) (by kernel_rfl) (fun _ _ _ h => h) (Or.inl ⟨by rfl, ?hys4⟩) (by assumption) ?rests4
  case hys4 => (intro w hSw; (try dsimp only at hSw); go_simp; first | done | (with_reducible rfl))
  try simp only [Act.put, List.getElem_toArray, List.getElem_cons_zero, List.getElem_cons_succ, List.setIfInBounds_toArray, List.set_cons_zero, List.set_cons_succ]
  refine wpAnyH_take (i := 5) (v := ?vs5) rfl (by kernel_rfl) (by kernel_rfl) (by kernel_rfl) (fun _ _ _ h => h) (Or.inl ⟨by rfl, ?hys5⟩) (by assumption) ?rests5
  case hys5 => (intro w hSw; (try dsimp only at hSw); go_simp; first | done | (with_reducible rfl))
  try simp only [Act.put, List.getElem_toArray, List.getElem_cons_zero, List.getElem_cons_succ, List.setIfInBounds_toArray, List.set_cons_zero, List.set_cons_succ]
  refine wpAnyH_take (i := 6) (v := ?vs6) rfl (by kernel_rfl) (by kernel_rfl) (by kernel_rfl) (fun _ _ _ h => h) (Or.inl ⟨by rfl, ?hys6⟩) (by assumption) ?rests6
  case hys6 => (intro w hSw; (try dsimp only at hSw); go_simp; first | done | (with_reducible rfl))
  try simp only [Act.put, List.getElem_toArray, List.getElem_cons_zero, List.getElem_cons_succ, List.setIfInBounds_toArray, List.set_cons_zero, List.set_cons_succ]
  refine wpAnyH_take (i := 7) (v := ?vs7) rfl (by kernel_rfl) (by kernel_rfl) (by kernel_rfl) (fun _ _ _ h => h) (Or.inl ⟨by rfl, ?hys7⟩) (by assumption) ?rests7
  case hys7 => (intro w hSw; (try dsimp only at hSw); go_simp; first | done | (with_reducible rfl))
  try simp only [Act.put, List.getElem_toArray, List.getElem_cons_zero, List.getElem_cons_succ, List.setIfInBounds_toArray, List.set_cons_zero, List.set_cons_succ]
  refine wpAnyH_take (i := 8) (v := ?vs8) rfl (by kernel_rfl) (by kernel_rfl) (by kernel_rfl) (fun _ _ _ h => h) (Or.inl ⟨by rfl, ?hys8⟩) (by assumption) ?rests8
  case hys8 => (intro w hSw; (try dsimp only at hSw); go_simp; first | done | (with_reducible rfl))
  try simp only [Act.put, List.getElem_toArray, List.getElem_cons_zero, List.getElem_cons_succ, List.setIfInBounds_toArray, List.set_cons_zero, List.set_cons_succ]
  refine wpAnyH_ready (rs := [9]) (by kernel_rfl) (by simp) ?_
  refine AllReadyH.cons rfl (fun K hK => ?_) AllReadyH.nil
  refine step_load_blk rfl 41 (.tmp 11) rfl b 41 cs.toArray _ rfl key.2.2.1 Try.underlying41 rfl (size_msg hl) ?_
  refine hK.out _ _ (key) (fun hS9 => ?_)
  clear hK K
  try simp only [Act.put, List.getElem_toArray, List.getElem_cons_zero, List.getElem_cons_succ, List.setIfInBounds_toArray, List.set_cons_zero, List.set_cons_succ]
  refine wpAnyH_ready (rs := [10]) (by kernel_rfl) (by simp) ?_
  refine AllReadyH.cons rfl (fun K hK => ?_) AllReadyH.nil
  refine step_build rfl 59 #[(0, .tmp 6), (1, .tmp 12)] rfl [(0, .int .i64 T), (1, .agg cs.toArray)] (by first | (go_simp; done) | simp [Act.eval] | rfl) _ (built_out T cs hl) ?_
  refine hK.out _ _ (key) (fun hS10 => ?_)
  clear hK K
  try simp only [Act.put, List.getElem_toArray, List.getElem_cons_zero, List.getElem_cons_succ, List.setIfInBounds_toArray, List.set_cons_zero, List.set_cons_succ]
  refine wpAnyH_ready (rs := [11]) (by kernel_rfl) (by simp) ?_
  refine AllReadyH.cons rfl (fun K hK => ?_) AllReadyH.nil
  refine step_store_blk rfl 59 (.tmp 2) (.tmp 13) rfl w.heap.size 59 (zi :: zmsg).toArray (.int .i64 T :: cs).toArray rfl rfl hout (by simp [hl, zmsg]) (size_out hl) (one_out hone) ?_
  intro W hW kW sW
  have hbW := Below.touch key.2.2.2 kW (by simp) (by simp)
  have key2 : (fun W => W.cell? ⟨g, 2, none⟩ = some (.int .i64 T) ∧ W.cell? ⟨g, 4, none⟩ = some (.pointer (some ⟨b, 0, none⟩)) ∧ Blk W b 41 cs.toArray ∧ Below w.heap.size w W) W := ⟨(hbW.cell hg).trans h1, (hbW.cell hg).trans h2, hb.step hbW, hbW⟩
  refine hK.out _ _ (key2) (fun hS11 => ?_)
  clear hK K
  refine heldMono (S' := (fun W => (W.cell? ⟨g, 2, none⟩ = some (.int .i64 T) ∧ W.cell? ⟨g, 4, none⟩ = some (.pointer (some ⟨b, 0, none⟩)) ∧ Blk W b 41 cs.toArray ∧ Below w.heap.size w W) ∧ Blk W w.heap.size 59 (.int .i64 T :: cs).toArray)) (fun _ h => h.1) _ _ _ _ ?_
  have hT11 : (fun W => (W.cell? ⟨g, 2, none⟩ = some (.int .i64 T) ∧ W.cell? ⟨g, 4, none⟩ = some (.pointer (some ⟨b, 0, none⟩)) ∧ Blk W b 41 cs.toArray ∧ Below w.heap.size w W) ∧ Blk W w.heap.size 59 (.int .i64 T :: cs).toArray) _ := ⟨key2, hW⟩
  try simp only [Act.put, List.getElem_toArray, List.getElem_cons_zero, List.getElem_cons_succ, List.setIfInBounds_toArray, List.set_cons_zero, List.set_cons_succ]
  refine wpAnyH_done (by kernel_rfl) ?_ _
  have hf := hide hW
  have hbf := hide hbW
  clear hW hbW hout key key2 hT11 hS11 kW
  go_wp2_with fail
  refine bodyPost_ret (results_cell_row Try.results28 _ _ w.heap.size 59 _ (0, 0) _ rfl hf.out Try.underlying59 rfl (size_out hl)) rfl ?_
  exact ⟨rfl, hbf.out⟩
end Go.Proofs.Ytpbgelhjbfckcaa
/- Number; send of a client. -/
namespace Go.Proofs.Ytpbgelhjbfckcaa
set_option linter.unusedSimpArgs false
open Go.ChangeShapes Go.WideShapes Go.ChangeAt Go.RowKit
set_option linter.unusedVariables false

theorem send_c (g : Nat) (S : CS) (p : Value) (cs : List Value) (w : World) (h : Cl w g S p) (hc : S.opened = some cs) : Calls Try.prog 28 #[.pointer (some ⟨g, 0, none⟩)] w (Sent w S.target cs) := by
  obtain ⟨b, hne, rfl, hb⟩ := h.opened cs hc
  exact send_raw g b S.target cs w h.lt h.cells.2.2.1 h.cells.2.2.2.2.1 hb (h.ok.opened cs hc).1 (h.ok.opened cs hc).2
theorem number_c (g : Nat) (S : CS) (p : Value) (w : World) (h : Cl w g S p) : Calls Try.prog 15 #[.pointer (some ⟨g, 0, none⟩)] w fun e w' => e = .returned (.int .i64 S.number) ∧ w = w' := by
  obtain ⟨c0, c1, c2, c3, c4, f0, f1, f2, f3, f4⟩ := h.cells
  obtain ⟨i, m, T, n, o⟩ := S
  dsimp only at c0 c1 c2 c3 c4 ⊢
  clear h
  go_enter Try.func15, Try.ntmps15
  go_wp2_with fail
  go_ret
  exact ⟨rfl, rfl⟩
end Go.Proofs.Ytpbgelhjbfckcaa
/- begin: a request is opened. -/
namespace Go.Proofs.Ytpbgelhjbfckcaa
open Go.ChangeShapes Go.WideShapes Go.ChangeAt Go.RowKit
set_option linter.unusedVariables false
set_option linter.unusedSimpArgs false
/-- The message that begin opens. -/
def opens (S : CS) (cs : List Value) : List Value := (cs.set 2 (.int .i64 S.id)).set 3 (.int .i64 (S.number + 1))
theorem one_opens {S : CS} {cs : List Value} (h : cs.toArray.all (·.oneCell') = true) : (opens S cs).toArray.all (·.oneCell') = true := by
  simp only [List.all_toArray, List.all_eq_true] at h ⊢
  intro x hx
  rcases List.mem_or_eq_of_mem_set hx with hx | rfl
  · rcases List.mem_or_eq_of_mem_set hx with hx | rfl
    · exact h x hx
    · rfl
  · rfl
theorem cl_opened {W : World} {g b : Nat} {i m T n : Int} {o : Option (List Value)} {os : List Value} (ok : (CS.mk i m T n o).Ok) (hn : n < 1000000) (hO : os.length = 47) (hOne : os.toArray.all (·.oneCell') = true)
    (hg : Blk W g 74 #[.int .i64 i, .int .i64 m, .int .i64 T, .int .i64 (n + 1), .pointer (some ⟨b, 0, none⟩)]) (hm : Blk W b 41 os.toArray) (hbg : b ≠ g) : Cl W g ⟨i, m, T, n + 1, some os⟩ (.pointer (some ⟨b, 0, none⟩)) := by
  have h0 := ok.number.1
  dsimp only at h0
  exact ⟨hg, ⟨ok.id, ok.machines, ok.target, ⟨by show (0:Int) ≤ n + 1; omega, by show n + 1 ≤ 1000000; omega⟩, fun cs' hc => by injection hc with hc; subst hc; exact ⟨hO, hOne⟩⟩, (fun hc => by cases hc), fun cs' hc => by injection hc with hc; subst hc; exact ⟨b, hbg, rfl, hm⟩⟩
theorem wend (w : World) (g : Nat) (i m T n : Int) (o : Option (List Value)) (p : Value) (os : List Value) (h : Cl w g ⟨i, m, T, n, o⟩ p) :
    let X := ((((w.setCell ⟨g, 3, none⟩ (Value.int .i64 (n + 1))).setCell ⟨g, 4, none⟩ (.pointer (some ⟨w.heap.size, 0, none⟩))).alloc (Obj.cells os.toArray 41)).alloc (Obj.cells (zi :: zmsg).toArray 59)).drew
    Blk X g 74 #[.int .i64 i, .int .i64 m, .int .i64 T, .int .i64 (n + 1), .pointer (some ⟨w.heap.size, 0, none⟩)] ∧ X.cell? ⟨g, 2, none⟩ = some (.int .i64 T) ∧ X.cell? ⟨g, 4, none⟩ = some (.pointer (some ⟨w.heap.size, 0, none⟩)) ∧
    Blk X w.heap.size 41 os.toArray ∧ Blk X (w.heap.size + 1) 59 (zi :: zmsg).toArray ∧ Touch [g] w X := by
  intro X
  have hB : Blk X g 74 #[.int .i64 i, .int .i64 m, .int .i64 T, .int .i64 (n + 1), .pointer (some ⟨w.heap.size, 0, none⟩)] := ((((h.blk.put 3 _).put 4 _).alloc _).alloc _).drew
  have e2 : ((w.setCell ⟨g, 3, none⟩ (Value.int .i64 (n + 1))).setCell ⟨g, 4, none⟩ (.pointer (some ⟨w.heap.size, 0, none⟩))).heap.size = w.heap.size := by simp
  refine ⟨hB, hB.cell 2, hB.cell 4, ?_, ?_, (((((Touch.refl [g] w).set (by simp) 3 _).set (by simp) 4 _).alloc _).alloc _).drew⟩
  · have := ((Blk.new ((w.setCell ⟨g, 3, none⟩ (Value.int .i64 (n + 1))).setCell ⟨g, 4, none⟩ (.pointer (some ⟨w.heap.size, 0, none⟩))) 41 os.toArray).alloc (Obj.cells (zi :: zmsg).toArray 59)).drew
    rw [e2] at this; exact this
  · have := (Blk.new (((w.setCell ⟨g, 3, none⟩ (Value.int .i64 (n + 1))).setCell ⟨g, 4, none⟩ (.pointer (some ⟨w.heap.size, 0, none⟩))).alloc (Obj.cells os.toArray 41)) 59 (zi :: zmsg).toArray).drew
    rw [World.size_alloc, e2] at this; exact this
set_option maxRecDepth 100000 in
set_option maxHeartbeats 1000000 in
theorem begin_c (g : Nat) (S : CS) (p : Value) (cs : List Value) (w : World) (h : Cl w g S p) (hl : cs.length = 47) (hone : cs.toArray.all (·.oneCell') = true) (hn : S.number < 1000000) :
    Calls Try.prog 47 #[.pointer (some ⟨g, 0, none⟩), .agg cs.toArray] w fun e w' =>
      e = .returned (.agg (.int .i64 S.target :: opens S cs).toArray) ∧ (∃ q, Cl w' g { S with number := S.number + 1, opened := some (opens S cs) } q) ∧ Touch [g] w w' := by
  have hlt := h.lt
  obtain ⟨c0, c1, c2, c3, c4, f0, f1, f2, f3, f4⟩ := h.cells
  obtain ⟨i, m, T, n, o⟩ := S
  have n0 := h.ok.number.1
  dsimp only at c0 c1 c2 c3 c4 hn n0 ⊢
  have HC := hide h
  clear h
  go_enter Try.func47, Try.ntmps47
  go_wp2_with fail
  have key : ∀ cs' : List Value, (fun W => W.cell? ⟨g, 0, none⟩ = some (.int .i64 i) ∧ W.cell? ⟨g, 3, none⟩ = some (.int .i64 (n + 1))) (((w.setCell ⟨g, 3, none⟩ (Value.int .i64 (n + 1))).alloc (Obj.cells cs'.toArray 41)).alloc (Obj.cells (zi :: zmsg).toArray 59)).drew := fun cs' => ⟨(World.cell?_alloc_lt _ _ _ (by simp only [World.size_alloc, Go.World.size_setCell]; exact Nat.lt_succ_of_lt hlt)).trans ((World.cell?_alloc_lt _ _ _ (by simp only [Go.World.size_setCell]; exact hlt)).trans (((HC.out.blk.put 3 _).cell 0))), (World.cell?_alloc_lt _ _ _ (by simp only [World.size_alloc, Go.World.size_setCell]; exact Nat.lt_succ_of_lt hlt)).trans ((World.cell?_alloc_lt _ _ _ (by simp only [Go.World.size_setCell]; exact hlt)).trans (((HC.out.blk.put 3 _).cell 3)))⟩
  refine wp_region_held_drew (S := fun W => W.cell? ⟨g, 0, none⟩ = some (.int .i64 i) ∧ W.cell? ⟨g, 3, none⟩ = some (.int .i64 (n + 1))) (by kernel_rfl) (key cs) (fun hS0 => ?_)
  refine wpAnyH_take (i := 0) (v := ?vb0) rfl (by kernel_rfl) (by kernel_rfl) (by kernel_rfl) (fun _ _ _ h => h) (Or.inl ⟨by rfl, ?hyb0⟩) (by assumption) ?restb0
  case hyb0 => (intro w hSw; (try dsimp only at hSw); go_simp; first | done | (with_reducible rfl))
  try simp only [Act.put, List.getElem_toArray, List.getElem_cons_zero, List.getElem_cons_succ, List.setIfInBounds_toArray, List.set_cons_zero, List.set_cons_succ]
  refine wpAnyH_take (i := 1) (v := ?vb1) rfl (by kernel_rfl) (by kernel_rfl) (by kernel_rfl) (fun _ _ _ h => h) (Or.inl ⟨by rfl, ?hyb1⟩) (by assumption) ?restb1
  case hyb1 => (intro w hSw; (try dsimp only at hSw); go_simp; first | done | (with_reducible rfl))
  try simp only [Act.put, List.getElem_toArray, List.getElem_cons_zero, List.getElem_cons_succ, List.setIfInBounds_toArray, List.set_cons_zero, List.set_cons_succ]
  refine wpAnyH_take (i := 2) (v := ?vb2) rfl (by kernel_rfl) (by kernel_rfl) (by kernel_rfl) (fun _ _ _ h => h) (Or.inl ⟨by rfl, ?hyb2⟩) (by assumption) ?restb2
  case hyb2 => (intro w hSw; (try dsimp only at hSw); go_simp; first | done | (with_reducible rfl))
  try simp only [Act.put, List.getElem_toArray, List.getElem_cons_zero, List.getElem_cons_succ, List.setIfInBounds_toArray, List.set_cons_zero, List.set_cons_succ]
  refine wpAnyH_take (i := 3) (v := ?vb3) rfl (by kernel_rfl) (by kernel_rfl) (by kernel_rfl) (fun _ _ _ h => h) (Or.inl ⟨by rfl, ?hyb3⟩) (by assumption) ?restb3
  case hyb3 => (intro w hSw; (try dsimp only at hSw); go_simp; first | done | (with_reducible rfl))
  try simp only [Act.put, List.getElem_toArray, List.getElem_cons_zero, List.getElem_cons_succ, List.setIfInBounds_toArray, List.set_cons_zero, List.set_cons_succ]
  refine wpAnyH_take (i := 4) (v := ?vb4) rfl (by kernel_rfl) (by kernel_rfl) (by kernel_rfl) (fun _ _ _ h => h) (Or.inl ⟨by rfl, ?hyb4⟩) (by assumption) ?restb4
  case hyb4 => (intro w hSw; (try dsimp only at hSw); go_simp; first | done | (with_reducible rfl))
  try simp only [Act.put, List.getElem_toArray, List.getElem_cons_zero, List.getElem_cons_succ, List.setIfInBounds_toArray, List.set_cons_zero, List.set_cons_succ]
  refine wpAnyH_take (i := 5) (v := ?vb5) rfl (by kernel_rfl) (by kernel_rfl) (by kernel_rfl) (fun _ _ _ h => h) (Or.inl ⟨by rfl, ?hyb5⟩) (by assumption) ?restb5
  case hyb5 => (intro w hSw; (try dsimp only at hSw); go_simp; first | done | (with_reducible rfl))
  try simp only [Act.put, List.getElem_toArray, List.getElem_cons_zero, List.getElem_cons_succ, List.setIfInBounds_toArray, List.set_cons_zero, List.set_cons_succ]
  refine wpAnyH_take (i := 6) (v := ?vb6) rfl (by kernel_rfl) (by kernel_rfl) (by kernel_rfl) (fun _ _ _ h => h) (Or.inl ⟨by rfl, ?hyb6⟩) (by assumption) ?restb6
  case hyb6 => (intro w hSw; (try dsimp only at hSw); go_simp; first | done | (with_reducible rfl))
  try simp only [Act.put, List.getElem_toArray, List.getElem_cons_zero, List.getElem_cons_succ, List.setIfInBounds_toArray, List.set_cons_zero, List.set_cons_succ]
  refine wpAnyH_take (i := 7) (v := ?vb7) rfl (by kernel_rfl) (by kernel_rfl) (by kernel_rfl) (fun _ _ _ h => h) (Or.inl ⟨by rfl, ?hyb7⟩) (by assumption) ?restb7
  case hyb7 => (intro w hSw; (try dsimp only at hSw); go_simp; first | done | (with_reducible rfl))
  try simp only [Act.put, List.getElem_toArray, List.getElem_cons_zero, List.getElem_cons_succ, List.setIfInBounds_toArray, List.set_cons_zero, List.set_cons_succ]
  refine wpAnyH_take (i := 8) (v := ?vb8) rfl (by kernel_rfl) (by kernel_rfl) (by kernel_rfl) (fun _ _ _ h => h) (Or.inl ⟨by rfl, ?hyb8⟩) (by assumption) ?restb8
  case hyb8 => (intro w hSw; (try dsimp only at hSw); go_simp; first | done | (with_reducible rfl))
  try simp only [Act.put, List.getElem_toArray, List.getElem_cons_zero, List.getElem_cons_succ, List.setIfInBounds_toArray, List.set_cons_zero, List.set_cons_succ]
  refine wpAnyH_ready (rs := [9]) (by kernel_rfl) (by simp) ?_
  refine AllReadyH.cons rfl (fun K hK => ?_) AllReadyH.nil
  go_simp
  refine hK.out _ _ (key _) (fun hS9 => ?_)
  clear hK K
  try simp only [Act.put, List.getElem_toArray, List.getElem_cons_zero, List.getElem_cons_succ, List.setIfInBounds_toArray, List.set_cons_zero, List.set_cons_succ]
  refine wpAnyH_take (i := 10) (v := ?vb10) rfl (by kernel_rfl) (by kernel_rfl) (by kernel_rfl) (fun _ _ _ h => h) (Or.inl ⟨by rfl, ?hyb10⟩) (by assumption) ?restb10
  case hyb10 => (intro w hSw; (try dsimp only at hSw); go_simp; first | done | (with_reducible rfl))
  try simp only [Act.put, List.getElem_toArray, List.getElem_cons_zero, List.getElem_cons_succ, List.setIfInBounds_toArray, List.set_cons_zero, List.set_cons_succ]
  refine wpAnyH_ready (rs := [11]) (by kernel_rfl) (by simp) ?_
  refine AllReadyH.cons rfl (fun K hK => ?_) AllReadyH.nil
  go_simp
  refine hK.out _ _ (key _) (fun hS11 => ?_)
  clear hK K
  try simp only [Act.put, List.getElem_toArray, List.getElem_cons_zero, List.getElem_cons_succ, List.setIfInBounds_toArray, List.set_cons_zero, List.set_cons_succ]
  refine wpAnyH_done (by kernel_rfl) ?_ _
  clear key
  go_wp2_with fail
  have hO : (opens ⟨i, m, T, n, o⟩ cs).length = 47 := by simp [opens, hl]
  have hOne : (opens ⟨i, m, T, n, o⟩ cs).toArray.all (·.oneCell') = true := one_opens hone
  have eO : (cs.set 2 (Value.int IntKind.i64 i)).set 3 (Value.int IntKind.i64 (n + 1)) = opens ⟨i, m, T, n, o⟩ cs := rfl
  rw [eO]
  obtain ⟨os, hcs⟩ : ∃ os, opens ⟨i, m, T, n, o⟩ cs = os := ⟨_, rfl⟩
  have hcs' := hcs
  rw [hcs] at hO hOne ⊢
  have HCS := hide hcs'
  clear hcs'
  have W0 := wend w g i m T n o p os HC.out
  have HW0 := hide W0
  refine (send_raw g w.heap.size T os _ ?q1 W0.2.1 W0.2.2.1 W0.2.2.2.1 hO hOne).mono ?_
  case q1 => simp; omega
  clear W0
  rintro e w1 ⟨rfl, hbw⟩
  have HB := hide hbw
  have HO1 := hide (HW0.out.2.2.2.2.1.step hbw)
  have HM1 := hide (HW0.out.2.2.2.1.step hbw)
  have HC1 := hide (HW0.out.1.step hbw)
  have HT1 := hide (HW0.out.2.2.2.2.2.step hbw)
  clear hbw hcs eO HW0 HB
  go_wp2_with (first
    | (refine wpList_store_blk rfl 59 (.tmp 4) (.tmp 26) rfl (w.heap.size + 1) 59 (zi :: zmsg).toArray (.int .i64 T :: os).toArray rfl rfl HO1.out (by simp [hO, zmsg]) (size_out hO) (one_out hOne) ?_; intro W2 hx2 ht2 hs2; have HX2 := hide hx2; have HT2 := hide ht2; clear hx2 ht2 hs2))
  refine bodyPost_ret (results_cell_row rfl _ _ (w.heap.size + 1) 59 _ (0, 0) _ rfl HX2.out Try.underlying59 rfl (size_out hO)) rfl ?_
  have HQ := cl_opened HC.out.ok hn hO hOne (HC1.out.touch HT2.out (by simp; omega)) (HM1.out.touch HT2.out (by simp)) (by omega)
  rw [show opens ⟨i, m, T, n, o⟩ cs = os from HCS.out]
  exact ⟨rfl, ⟨_, HQ⟩, HT1.out.next HT2.out (by simp)⟩
end Go.Proofs.Ytpbgelhjbfckcaa
