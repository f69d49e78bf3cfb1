/- Decode walked. -/
import Derived.Test.YtpbgelhjbfckcaaV15
import Derived.Test.YtpbgelhjbfckcaaV16
namespace Go.Proofs.Ytpbgelhjbfckcaa
set_option maxRecDepth 100000
set_option linter.unusedVariables false
set_option linter.unusedSimpArgs false
open Go.ChangeMaps Go.ChangeShapes Go.WideShapes Go.ChangeAt Go.RowKit
open Go.Maps (Keyed IsMap)
theorem run_field1 (fw fr fz fo : FuncId) (cw cr cz co : Array Value) (W : World) : (Instr.field 101 (.agg #[.func (.func fw) #[] cw, .func (.func fr) #[] cr, .func (.func fz) #[] cz, .func (.func fo) #[] co]) 1).run Try.prog W = .ok (.func (.func fr) #[] cr) W := by kernel_rfl
theorem ownsMap_touch {w w' : World} {t : TypeId} {R : Value → Option (DataW Value × List MemPlace)} {b n : Nat} {D : DataW Value} {S : List Nat} (h : w.ownsMap Try.prog t R b n D) (k : Touch S w w') (hb : b ∉ S) : w'.ownsMap Try.prog t R b n D := by
 have hlt := h.lt
 obtain ⟨es, clock, hB, F, hs, hD⟩ := h
 exact ⟨es, clock, (k.block b hlt hb).trans hB, F, hs, hD⟩
theorem zmsgI_ones : zmsgI.all (·.oneCell') = true := by have := zmsgI_one; simpa using this
theorem ba_inj {a b : ByteArray} (h : a.data = b.data) : a = b := by cases a; cases b; congr
theorem wpList_load_gd {P : Program} {w : World} {ops : Array Oper} {rest : List Oper} {op : Oper} {a : Act} {Q : Exit → Act → World → Prop} (hw : Region.wanted op (yielded ops a.tmps) = true) (ty : TypeId) (x : Operand) (ho : op.op = .load ty x) (g : Nat) (t : TypeId) (cs : List Value) (d : TypeDesc) (hB : Blk w g t cs.toArray)
 (hx : a.eval x = .pointer (some ⟨g, 0, none⟩)) (hu : P.underlying ty = some d) (hd : d.isRow = true) (hi : (P.info? ty).map (·.size) = some cs.length)
 (h : wpList P ops Q rest (a.put op.dst (.agg cs.toArray)) w) : wpList P ops Q (op :: rest) a w :=
 wpList_step fun K hK => by
  rw [if_pos hw]
  exact wp_load_mid ty x ho g 0 hx cs d (fun j v hj => by rw [Nat.zero_add, hB.cell j, List.getElem?_toArray]; exact hj) hu hd hi (hK _ _ h)
/-! ### the plain reader -/
@[irreducible] def kmsg (k : Int) : List Value := zmsg.set 0 (.int .i64 k)
theorem kmsg_def (k : Int) : kmsg k = zmsg.set 0 (.int .i64 k) := by unfold kmsg; rfl
theorem kmsg_built (k : Int) : Try.prog.built 41 [(0, .int .i64 k)] = some (kmsg k).toArray := by
 rw [kmsg_def]
 exact (by kernel_rfl : Try.prog.built 41 [(0, .int .i64 k)] = some (zmsg.set 0 (.int .i64 k)).toArray)
theorem kmsg_zero (k : Int) : (kmsg k)[0]? = some (.int .i64 k) := by rw [kmsg_def]; rfl
def zpm : PM := ⟨fun _ => 0, fun _ => [], ⟨#[]⟩, false, false, ⟨#[]⟩, []⟩
def pm0 (k : Int) : PM := { zpm with n := upd (fun _ => 0) 0 k }
theorem zmsg_A (w : World) (A0 : Nat) : MsgA w A0 zmsg zpm := by
 refine ⟨rfl, fun o ho => ?_, fun o ho => ?_, rfl, rfl, rfl, rfl, ⟨_, _, _, rfl, EsAB.nil _ _⟩⟩
 ·refine ⟨?_, (⟨by decide, by decide⟩ : I64 0)⟩
  simp only [iOffs, List.mem_cons, List.not_mem_nil, or_false] at ho
  rcases ho with rfl | rfl | rfl | rfl | rfl | rfl | rfl | rfl | rfl | rfl | rfl | rfl | rfl | rfl | rfl | rfl | rfl | rfl | rfl | rfl | rfl | rfl | rfl | rfl | rfl | rfl | rfl | rfl | rfl | rfl | rfl | rfl <;> rfl
 ·simp only [lOffs, List.mem_cons, List.not_mem_nil, or_false] at ho
  rcases ho with rfl | rfl | rfl | rfl | rfl | rfl | rfl | rfl | rfl | rfl <;> exact ⟨_, _, _, rfl, LiAB.nil _ _ _⟩
theorem kmsg_A (w : World) (A0 : Nat) (k : Int) (hk : I64 k) : MsgA w A0 (kmsg k) (pm0 k) := by
 rw [kmsg_def]
 exact (zmsg_A w A0).num (by decide) hk
def rFs (ix : List Nat) (x : PM × RS) : PM × RS := ix.foldl (fun x k => rF k x.1 x.2) x
theorem rFs_zero (ix : List Nat) (x : PM × RS) : rFs (ix.take 0) x = x := rfl
theorem rFs_snoc (ix : List Nat) (j : Nat) (h : j < ix.length) (x : PM × RS) : rFs (ix.take (j + 1)) x = rF ix[j] (rFs (ix.take j) x).1 (rFs (ix.take j) x).2 := by
 unfold rFs
 rw [List.take_add_one, List.getElem?_eq_getElem h, List.foldl_append]
 rfl
def dec (s : List UInt8) : PM × RS := rFs (useIdx.getD (rCount 11 (s, 0)).2 []) (pm0 (rCount 11 (s, 0)).2, (rCount 11 (s, 0)).1)
section
attribute [local irreducible] rList rGL rText rCnt rBool rEns rInt rLists rInts dMsg
theorem rNumF_len (o : Nat) (p : PM) (r : RS) : (rNumF o p r).2.1.length ≤ r.1.length := rInt_len r.1 r.2
theorem rPart_len (ns ls : List Nat) (p : PM) (r : RS) : (rPart ns ls p r).2.1.length ≤ r.1.length := Nat.le_trans (rLists_len _ _) (rList_len _ _)
theorem rUnit_len (p : PM) (r : RS) : (rUnit p r).2.1.length ≤ r.1.length := Nat.le_trans (rInt_len (rList 3 r).1.1 (rList 3 r).1.2) (rList_len _ _)
theorem rF_len (k : Nat) (p : PM) (r : RS) : (rF k p r).2.1.length ≤ r.1.length := by
 have : k = 0 ∨ k = 1 ∨ k = 2 ∨ k = 3 ∨ k = 4 ∨ k = 5 ∨ k = 6 ∨ k = 7 ∨ k = 8 ∨ k = 9 ∨ k = 10 ∨ k = 11 ∨ k = 12 ∨ ∃ j, k = j + 13 := by
  by_cases h : k < 13
  ·omega
  ·exact .inr (.inr (.inr (.inr (.inr (.inr (.inr (.inr (.inr (.inr (.inr (.inr (.inr ⟨k - 13, by omega⟩))))))))))))
 rcases this with rfl | rfl | rfl | rfl | rfl | rfl | rfl | rfl | rfl | rfl | rfl | rfl | rfl | ⟨j, rfl⟩
 ·exact rNumF_len _ _ _
 ·exact rNumF_len _ _ _
 ·exact rNumF_len _ _ _
 ·exact rNumF_len _ _ _
 ·exact rNumF_len _ _ _
 ·exact rNumF_len _ _ _
 ·exact rNumF_len _ _ _
 ·exact (rText_both r).1
 ·exact rNumF_len _ _ _
 ·exact rPart_len _ _ _ _
 ·exact rUnit_len _ _
 ·exact rPart_len _ _ _ _
 ·exact rPart_len _ _ _ _
 ·exact (rText_both r).1
end
def SzOk (p : PM) : Prop := totL (lOffs.map p.li) + totE p.l + p.l.length + p.body.size + p.d.size ≤ 1073741824 ∧ ∀ x ∈ p.l, x.Ok
theorem flat_at (n : Nat) : ∀ (css : List (List Value)), (∀ c ∈ css, c.length = n) → ∀ i (h : i < css.length) j, j < n → css.flatten[i * n + j]? = css[i][j]?
 | [], _, i, h, _, _ => by cases h
 | c :: r, hc, 0, _, j, hj => by
  have := hc c (by simp)
  rw [List.flatten_cons, Nat.zero_mul, Nat.zero_add, List.getElem?_append_left (by omega)]
  rfl
 | c :: r, hc, i + 1, h, j, hj => by
  have h1 := hc c (by simp)
  have e : (i + 1) * n + j - c.length = i * n + j := by rw [h1, Nat.succ_mul]; omega
  rw [List.flatten_cons, List.getElem?_append_right (by rw [h1, Nat.succ_mul]; omega), e, flat_at n r (fun x hx => hc x (by simp [hx])) i (by simpa using h) j hj]
  rfl
theorem EsAB.ens {w : World} {A0 : Nat} {v : Value} {l : List En} (h : EsAB w A0 v l) (hok : ∀ x ∈ l, x.Ok) : EnsIn w w.heap.size v l := by
 obtain ⟨css, h1, h2⟩ := h
 have h1' := h1
 obtain ⟨hl, ⟨rfl, h0⟩ | ⟨g, cap, cur, rfl, hb, hgg, hn, hm, r⟩⟩ := h1
 ·have e : l = [] := List.eq_nil_of_length_eq_zero (by rw [← h2.1, h0])
  subst e
  exact ⟨none, 0, rfl, Nat.le_refl _, by unfold maxLen; omega, by simp, fun h => by cases h⟩
 ·refine ⟨some ⟨g, 0, none⟩, cap, by rw [h2.1], by rw [← h2.1]; exact hn, hm, hok, fun _ => ⟨g, 0, rfl, (Array.getElem?_eq_some_iff.1 hgg).1, fun i hi => ?_⟩⟩
  have hi2 : i < css.length := by rw [h2.1]; exact hi
  refine ⟨css[i], (h2.2 i hi2 hi).low, fun j v hj => ?_⟩
  have hall : ∀ c ∈ css, c.length = 15 := fun c hc => by
   obtain ⟨q, hq, rfl⟩ := List.mem_iff_getElem.1 hc
   exact (h2.2 q hq (by rw [← h2.1]; exact hq)).len
  have hj15 : j < 15 := by
   have := (List.getElem?_eq_some_iff.1 hj).1
   rw [hall _ (List.getElem_mem hi2)] at this
   exact this
  have hpos : css.flatten[i * 15 + j]? = some v := by
   rw [flat_at 15 css hall i hi2 j hj15, hj]
  have hlen : i * 15 + j < css.flatten.length := (List.getElem?_eq_some_iff.1 hpos).1
  have hc := World.ownsRow.cellAt (w := w) (cap := cap) h1' (i * 15 + j) (by rw [hl] at hlen; exact hlen)
  rw [Nat.zero_add, hc, hpos]
theorem MsgA.toM {w : World} {A0 : Nat} {cs : List Value} {p : PM} (h : MsgA w A0 cs p) (hs : SzOk p) : MsgM w w.heap.size cs p.li p.l := by
 have hb : strAt cs 5 = p.body := strAt_eq h.body
 have hd : strAt cs 45 = p.d := strAt_eq h.d
 refine ⟨⟨h.len, fun o ho => ⟨_, (h.N o ho).1⟩, fun x hx => ?_, fun o ho => ?_, ⟨_, h.body⟩, ⟨_, h.d⟩, ⟨_, h.gr⟩, ⟨_, h.dn⟩⟩, fun o ho => ?_, fun o ho => ?_, ?_, ?_⟩
 ·have h0 := h.N 0 (by decide)
  rw [h0.1] at hx
  injection hx with hx
  injection hx with _ hx
  exact hx ▸ h0.2
 ·by_cases e : o = 43
  ·subst e
   obtain ⟨A, n, c, e, _⟩ := h.E
   exact ⟨A, n, c, e⟩
  ·obtain ⟨A, n, c, e, _⟩ := h.S o (by revert o; decide)
   exact ⟨A, n, c, e⟩
 ·rw [numAt_eq (h.N o ho).1]; exact (h.N o ho).2
 ·obtain ⟨A, n, c, e, hl⟩ := h.S o ho
  rw [slAt_eq e]
  exact hl.low
 ·obtain ⟨A, n, c, e, hl⟩ := h.E
  rw [slAt_eq e]
  exact hl.ens hs.2
 ·rw [hb, hd]; exact hs.1
theorem off_all : ∀ o, o < 47 → o ∉ iOffs → o ∉ lOffs → o = 5 ∨ o = 42 ∨ o = 43 ∨ o = 45 ∨ o = 46 := by decide
def strOnes (cs : List Value) : Prop := cs.all (·.oneCell') = true
theorem MsgA.ones {w : World} {A0 : Nat} {cs : List Value} {p : PM} (h : MsgA w A0 cs p) : strOnes cs := by
 unfold strOnes
 rw [List.all_eq_true]
 intro v hv
 obtain ⟨o, ho, rfl⟩ := List.mem_iff_getElem.1 hv
 rw [h.len] at ho
 have h1 : cs[o]? = some cs[o] := List.getElem?_eq_getElem (by rw [h.len]; exact ho)
 by_cases c1 : o ∈ iOffs
 ·rw [(h.N o c1).1] at h1; injection h1 with h1; rw [← h1]; rfl
 by_cases c2 : o ∈ lOffs
 ·obtain ⟨A, n, c, e, _⟩ := h.S o c2
  rw [e] at h1; injection h1 with h1; rw [← h1]; rfl
 have : o = 5 ∨ o = 42 ∨ o = 43 ∨ o = 45 ∨ o = 46 := off_all o ho c1 c2
 rcases this with rfl | rfl | rfl | rfl | rfl
 ·rw [h.body] at h1; injection h1 with h1; rw [← h1]; rfl
 ·rw [h.gr] at h1; injection h1 with h1; rw [← h1]; rfl
 ·obtain ⟨A, n, c, e, _⟩ := h.E
  rw [e] at h1; injection h1 with h1; rw [← h1]; rfl
 ·rw [h.d] at h1; injection h1 with h1; rw [← h1]; rfl
 ·rw [h.dn] at h1; injection h1 with h1; rw [← h1]; rfl
/-! ### the walk -/
/-- Decode takes the bytes. -/
def Takes (s : ByteArray) (cs : List Value) : Prop := rEnd (dec s.data.toList).2 = 0 ∧ s.size ≠ 0 ∧ encP cs (dec s.data.toList).1.li (dec s.data.toList).1.l = s
def DecR (w : World) (s : ByteArray) (e : Ending) (w' : World) : Prop := Below w.heap.size w w' ∧ ∃ cs A0, MsgA w' A0 cs (dec s.data.toList).1 ∧
 (Takes s cs ∧ e = .returned (.tuple #[.agg cs.toArray, .int .i64 0]) ∨ ¬ Takes s cs ∧ e = .returned (.tuple #[.agg zmsg.toArray, .int .i64 11]))
section
attribute [local irreducible] rList rGL rText rCnt rBool rEns rInt rLists rInts dMsg rCount rF rFs
theorem PreF.next {w w' : World} {A0 : Nat} {L : LB} {b bm rb : Nat} {kk : Option Nat} {cs cs' : List Value} {p p' : PM} {r r' : RS} (h : PreF w A0 L b bm rb kk cs p r) (hf : FB w' A0 L b bm cs') (hm : MsgA w' A0 cs' p') (hr : Rd w' rb kk r'.1 r'.2) (ht : Touch [b, rb] w w') (hl : r'.1.length ≤ r.1.length) : PreF w' A0 L b bm rb kk cs' p' r' :=
 ⟨hf, hm, hr, h.ne, h.br, h.kb, h.kA, h.rA, Nat.le_trans h.sz ht.size, Nat.le_trans hl h.len⟩
set_option maxHeartbeats 8000000 in
theorem decode_c (s : ByteArray) (w : World) (hs : s.size ≤ 1000000000) (hsz : SzOk (dec s.data.toList).1) : Calls Try.prog 24 #[.string s] w (DecR w s) := by
 have HL : Hid (s.data.toList.length ≤ 1000000000) := hide (by rw [Array.length_toList]; exact hs)
 have HS := hide hs;have HSZ := hide hsz
 have HO := hide (Own.nil w [] (by simp))
 clear hs hsz
 go_enter Try.func24, Try.ntmps24
 go_wp2_with (first
  | ((with_reducible refine at_alloc 41 ?_); refine wpList_alloc_own HO.out rfl 41 rfl zmsgI zmsgI_info ?_; intro WA gR hO; replace HO := hide hO; clear hO)
  | ((with_reducible refine at_convert 9 102 (.tmp 11) ?_); refine wpList_bytes rfl (.tmp 11) rfl s rfl HS.out ?_; intro vb WC hbs hbl; have HBS := hide hbs; replace HO := hide (HO.out.step hbl); clear hbs hbl))
 refine (newReader_c _ _ WC HBS.out (by have := HL.out; omega)).mono ?_
 rintro e w2 ⟨rb, kk, rfl, hr, hbl, hbn, hkn⟩
 have HR := hide hr
 have hgR := (HO.out.blk 0 rfl).lt
 have HAP : Hid (w.heap.size ≤ rb ∧ rb ≠ gR ∧ rb < w2.heap.size ∧ gR < w2.heap.size ∧ (∀ y, kk = some y → y < w2.heap.size)) := hide ⟨Nat.le_trans HO.out.size hbn, by omega, hr.lt, Nat.lt_of_lt_of_le hgR hbl.size, fun y hy => (hkn y hy).2⟩
 replace HO := hide (HO.out.step hbl)
 clear hr hbl hbn hkn hgR HBS
 go_wp2_with fail
 have hc := rdCount_c rb kk s.data.toList 0 11 (by decide) w2 HR.out (by have := HL.out; omega) HAP.out.2.2.2.2
 obtain ⟨l1, c1, kn, h1⟩ : ∃ l c n, rCount 11 (s.data.toList, 0) = ((l, c), n) := ⟨_, _, _, rfl⟩
 have hle := rCount_le 11 (by decide) (s.data.toList, 0)
 have hln := rCount_len 11 s.data.toList 0
 rw [h1] at hc hle hln
 have HDC : Hid (dec s.data.toList = rFs (useIdx.getD kn []) (pm0 kn, (l1, c1))) := hide (by unfold dec; rw [h1])
 have HLN : Hid (l1.length ≤ 1000000000) := hide (Nat.le_trans hln HL.out)
 refine hc.mono ?_
 rintro e w3 ⟨rfl, hr, ht⟩
 replace HR : Hid (Rd w3 rb kk l1 c1) := hide hr
 replace HO := hide (HO.out.callN ht (fun s hs => by
  obtain rfl := List.mem_singleton.1 hs
  exact ⟨.inr HAP.out.1, by simpa using HAP.out.2.1⟩))
 replace HAP : Hid (w.heap.size ≤ rb ∧ rb ≠ gR ∧ rb < w3.heap.size ∧ gR < w3.heap.size ∧ (∀ y, kk = some y → y < w3.heap.size)) := hide (by have h := HAP.out; have h2 := ht.size; exact ⟨h.1, h.2.1, by omega, by omega, fun y hy => by have := h.2.2.2.2 y hy; omega⟩)
 have HP := hide (Own.nil w3 [] (by simp))
 have hwf : (Lit.int .i64 (kn : Int)).wf = true := by
  simp [Lit.wf, IntKind.min, IntKind.max, IntKind.signed, IntKind.bits]; simp only at hle; omega
 have hk11 : kn ≤ 11 := by simp only at hle; omega
 have HKN := hide hk11;clear hc h1 hle hln hr ht hk11
 go_wp2_with (first
  | ((with_reducible refine at_build 41 ?_); refine wpList_build rfl 41 _ rfl ([(0, .int .i64 (kn : Int))]) (by first | (simp [Act.eval]; done) | (simp [Act.eval]; rfl)) (kmsg kn).toArray (kmsg_built kn) ?_)
  | ((with_reducible refine at_box 41 (.tmp 16) ?_); refine wpList_box_own HP.out rfl 41 (.tmp 16) rfl (kmsg kn) rfl ?_; intro WD b hO; replace HP := hide hO; clear hO; have HWD : Hid (b < WD.heap.size ∧ w3.heap.size ≤ WD.heap.size) := hide ⟨(HP.out.blk 0 rfl).lt, HP.out.size⟩; have k0 : WD.cell? ⟨b, 0, none⟩ = some (.int .i64 (kn : Int)) := (HP.out.cells 0 rfl 0).trans (kmsg_zero kn)))
 refine (uses_c kn hwf _).mono ?_
 rintro e w4 ⟨hb4, hr⟩
 replace HP := hide (HP.out.step hb4)
 clear hb4 k0 hwf
 rcases hr with ⟨hk, rfl⟩ | ⟨ll, g, hul, hk0, hk1, rfl, hbg, hgn⟩
 ·exfalso
  have := HKN.out
  omega
 obtain ⟨ix, hix, rfl, hlt14, hnd⟩ := useList_get hul
 have hn14 : ix.length ≤ 14 := useIdx_len ix (List.mem_of_getElem? hix)
 have HDC2 : Hid (dec s.data.toList = rFs ix (pm0 kn, (l1, c1))) := hide (by
  rw [HDC.out]
  have e : (kn : Int).toNat = kn := by omega
  rw [e] at hix
  rw [List.getD_eq_getElem?_getD, hix]
  rfl)
 have HG := hide hbg
 have HGB : Hid (g ≠ b ∧ g ≠ rb) := hide (by have h1 := HWD.out; have h2 := HAP.out.2.2.1; exact ⟨by omega, by omega⟩)
 have HX14 := hide hlt14
 unfold useVal
 obtain ⟨n, hn⟩ : ∃ n, (ix.map fname).length = n := ⟨_, rfl⟩
 rw [hn]
 replace hn14 : n ≤ 14 := by rw [← hn, List.length_map]; exact hn14
 have HN : Hid (n = ix.length) := hide (by rw [← hn, List.length_map])
 clear hn hix hul hk0 hk1 hbg hgn hlt14 hnd HDC
 go_wp2_with fail
 refine (fields_c b _).mono ?_
 rintro e w5 ⟨bm, mb, M, L, rfl, hL, htab, hbm⟩
 have hB := HP.out.blk 0 rfl;have hb3 := HP.out.new 0 rfl;have hbel := hL.below
 have hle5 : w3.heap.size ≤ w5.heap.size := Nat.le_trans HP.out.size hbel.size
 have HPF : Hid (PreF w5 w5.heap.size L b bm rb kk (kmsg kn) (pm0 kn) (l1, c1)) := hide ⟨⟨fun e he => ⟨(hL.has e he).1.lt, (hL.has e he).1⟩, hbm, (hB.step hbel).lt, hB.step hbel⟩, kmsg_A _ _ _ ⟨by omega, by have := HKN.out; omega⟩, (HR.out.step HP.out.below).step hbel, fun e he => by have h1 := (hL.has e he).2; have h2 := hB.lt; have h3 := HAP.out.2.2.1; have h4 := HP.out.size; exact ⟨by omega, by omega⟩, by have := HAP.out.2.2.1; omega, fun e => by have := HAP.out.2.2.2.2 b e; omega, fun y hy => by have := HAP.out.2.2.2.2 y hy; omega, by have := HAP.out.2.2.1; omega, Nat.le_refl _, HLN.out⟩
 have HTB : Hid (w5.ownsMap Try.prog 9 RV mb M.length (mkM M) ∧ DOk (mkM M) L b bm []) := hide ⟨htab.1, htab.dok⟩
 have HNM : Hid (Blk w5 g 9 (strCells (ix.map fname)).toArray) := hide (HG.out.step hbel)
 have HNE : Hid (mb ∉ [b, rb] ∧ g ∉ [b, rb]) := hide (by
  have h1 := htab.2.2.1;have h2 := hB.lt;have h3 := HAP.out.2.2.1;have h4 := HP.out.size
  refine ⟨?_, ?_⟩
  ·simp only [List.mem_cons, List.not_mem_nil, or_false, not_or]; exact ⟨by omega, by omega⟩
  ·have h5 := HGB.out
   simp only [List.mem_cons, List.not_mem_nil, or_false, not_or]
   exact ⟨h5.1, h5.2⟩)
 have HBR : Hid (w3.heap.size ≤ b) := hide hb3
 have HGR5 : Hid (gR < w5.heap.size) := hide (Nat.lt_of_lt_of_le HAP.out.2.2.2.1 hle5)
 have HO0 : Hid (w.heap.size ≤ w3.heap.size) := hide HO.out.size
 replace HO := hide ((HO.out.step HP.out.below).step hbel)
 clear hL htab hbm hB hb3 hbel hle5 HG HP HR
 go_wp2_with fail
 go_loopw [30] (fun v30 wr => ∃ j : Nat, v30 = .int .i64 j ∧ j ≤ n ∧ (∃ cs', PreF wr w5.heap.size L b bm rb kk cs' (rFs (ix.take j) (pm0 kn, (l1, c1))).1 (rFs (ix.take j) (pm0 kn, (l1, c1))).2) ∧ Own w [] ([] ++ [(gR, 41, zmsgI)]) wr ∧ Touch [b, rb] w5 wr) (fun v30 _ => n - (intOf v30).toNat)
 case atStart => exact ⟨0, rfl, Nat.zero_le _, ⟨_, by rw [rFs_zero]; exact HPF.out⟩, HO.out, Touch.refl _ _⟩
 case round =>
  obtain ⟨j, rfl, hj, ⟨cs', hpf⟩, hown, hto⟩ := hrel
  have HPJ := hide hpf;have HTJ := hide hto
  replace HO := hide hown
  clear hown
  by_cases hlt : j < n
  ·have hjl : j < ix.length := by rw [← HN.out]; exact hlt
   obtain ⟨k, hk⟩ : ∃ k, ix[j] = k := ⟨_, rfl⟩
   have hk14 : k < 14 := HX14.out k (hk ▸ List.getElem_mem hjl)
   have HFL : Hid (rFs (ix.take (j + 1)) (pm0 kn, (l1, c1)) = rF k (rFs (ix.take j) (pm0 kn, (l1, c1))).1 (rFs (ix.take j) (pm0 kn, (l1, c1))).2) := hide (by rw [← hk]; exact rFs_snoc ix j hjl _)
   have hname : wr.cell? ⟨g, j, none⟩ = some (.string (fname k)) := by
    rw [(HNM.out.touch hto HNE.out.2).cell j]
    simp [strCells, hjl, hk]
   obtain ⟨hh, v, hat, hf⟩ := HTB.out.2.1 k hk14 (by simp)
   obtain ⟨fw, fr, fz, fo, cw, cr, cz, co, rfl, hent0, hrd⟩ := field_r hk14 hf hpf
   have hfd := run_field1 fw fr fz fo cw.toArray cr.toArray cz.toArray co.toArray
   have HAT : Hid (∀ z, (mkM M).atKey (flit k) z = .held (.agg #[.func (.func fw) #[] cw.toArray, .func (.func fr) #[] cr.toArray, .func (.func fz) #[] cz.toArray, .func (.func fo) #[] co.toArray])) := hide hat
   have HMP := hide (ownsMap_touch HTB.out.1 hto HNE.out.1)
   have HRD := hide hrd
   have hent := fun (W : World) => hent0 (at0 rb :: cr).toArray W
   have HK14 := hide hk14;have HLT := hide hlt
   have hji : (j : Int) < (n : Int) := by omega
   clear hpf hto hlt hjl hk hk14 hh hat hf hrd hent0 hj
   go_wp2_with ((with_reducible refine at_lookup_ 96 (.tmp 34) (.tmp 35) false ?_); refine wpList_lookup_held rfl (.tmp 34) (.tmp 35) 96 rfl 9 101 keyed_str Try.underlying96 (zero_field _) mb M.length (mkM M) rfl HMP.out (.string (fname k)) (.agg #[.func (.func fw) #[] cw.toArray, .func (.func fr) #[] cr.toArray, .func (.func fz) #[] cz.toArray, .func (.func fo) #[] co.toArray]) (flit k) rfl (key_name k HK14.out) HAT.out ?_)
   have hw := HRD.out
   rw [show #[at0 rb] ++ cr.toArray = (at0 rb :: cr).toArray by simp] at hw
   refine hw.mono ?_
   rintro e w6 ⟨rfl, cs6, hF6, hM6, hR6, hT6⟩
   have HP6 := hide (HPJ.out.next hF6 (HFL.out ▸ hM6) (HFL.out ▸ hR6) hT6 (by rw [HFL.out]; exact rF_len _ _ _))
   have HT6 := hide (HTJ.out.trans hT6)
   replace HO := hide (HO.out.callN hT6 (fun s hs => by
    simp only [List.mem_cons, List.not_mem_nil, or_false] at hs
    have h1 := HAP.out;have h2 := HBR.out
    rcases hs with rfl | rfl
    ·exact ⟨.inr (by have := HO0.out; omega), by simp only [List.nil_append, List.map_cons, List.map_nil, List.mem_singleton]; omega⟩
    ·exact ⟨.inr h1.1, by simp only [List.nil_append, List.map_cons, List.map_nil, List.mem_singleton]; exact h1.2.1⟩))
   clear hw hF6 hM6 hR6 hT6 hname hent hfd
   go_wp2_with fail
   go_roundw
   case rel => exact ⟨j + 1, by go_num, HLT.out, ⟨cs6, HP6.out⟩, HO.out, HT6.out⟩
   case measure => have := HLT.out; simp [intOf]; omega
  ·obtain rfl : j = n := by omega
   have HDD : Hid (dec s.data.toList = rFs (ix.take j) (pm0 kn, (l1, c1))) := hide (by rw [HN.out, List.take_length]; exact HDC2.out)
   generalize rFs (ix.take j) (pm0 kn, (l1, c1)) = dx at *
   clear hpf hto hlt hj
   go_wp2_with fail
   have hc := end_c rb kk dx.2.1 dx.2.2 wr HPJ.out.rd
   obtain ⟨z, hz⟩ : ∃ z, rEnd (dx.2.1, dx.2.2) = z := ⟨_, rfl⟩
   rw [hz] at hc
   have HZ : Hid (rEnd dx.2 = z) := hide hz
   have HGR : Hid (gR < w5.heap.size) := hide HGR5.out
   have HSZ2 : Hid (SzOk dx.1) := hide (by rw [← HDD.out]; exact HSZ.out)
   have HMS : Hid (MsgA wr w5.heap.size cs' (dec s.data.toList).1) := hide (by rw [HDD.out]; exact HPJ.out.ms)
   refine hc.mono ?_
   rintro e w7 ⟨rfl, rfl⟩
   clear hc hz
   by_cases h0 : z = 0
   ·by_cases hs0 : s.size = 0
    ·have hsl : s.toList.isEmpty = true := by rw [ba_empty]; simp [hs0]
     have HNT : Hid (¬ Takes s cs') := hide (fun h => h.2.1 hs0)
     subst h0
     go_wp2_with (first
      | ((with_reducible refine at_build 41 ?_); refine wpList_build rfl 41 #[] rfl [] (by simp) zmsgI.toArray zmsgI_built ?_)
      | ((with_reducible refine at_store 41 (.tmp 2) ?_); refine wpList_store_own_t HO.out rfl 41 (.tmp 2) (.tmp 56) rfl 0 _ 0 _ _ zmsgI zmsgI rfl (.agg zmsgI.toArray) rfl rfl (fits_agg _) (by rw [zmsgI_len]; exact Nat.le_refl _) (splice_all rfl) (msg_sizeE zmsgI_len) zmsgI_ones ?_; intro W9 hO hB hT; replace HO := hide hO; replace HMS := hide (HMS.out.touch hT (fun s hs => by rw [List.mem_singleton.1 hs]; exact HGR.out)); clear hO hB hT))
     refine bodyPost_ret (results_row_tmp Try.results24 _ _ gR 41 _ (0, 0) _ _ rfl rfl (HO.out.blk 0 rfl) Try.underlying41 rfl (size_msg zmsgI_len)) rfl ?_
     exact ⟨HO.out.below, _, _, HMS.out, .inr ⟨HNT.out, by rw [zmsgI_def]; rfl⟩⟩
    ·have HM := hide (HPJ.out.ms.toM HSZ2.out)
     have hsl : s.toList.isEmpty = false := by rw [ba_empty]; simp [hs0]
     have HS0 := hide hs0
     subst h0
     clear hs0
     go_wp2_with ((with_reducible refine at_load 41 (.tmp 50) ?_); refine wpList_load_gd rfl 41 (.tmp 50) rfl b 41 cs' _ HPJ.out.fb.msg.2 rfl Try.underlying41 rfl (msg_sizeE HPJ.out.ms.len) ?_)
     refine (encode_c cs' dx.1.li dx.1.l wr HM.out).mono ?_
     rintro e w8 ⟨rfl, hb8⟩
     obtain ⟨es, hes⟩ : ∃ x, encP cs' dx.1.li dx.1.l = x := ⟨_, rfl⟩
     rw [hes]
     have HES := hide hes
     replace HMS := hide (HMS.out.touch (Touch.below hb8 []) (by simp))
     replace HO := hide (HO.out.step hb8)
     have HBB : Hid (Blk w8 b 41 cs'.toArray) := hide (HPJ.out.fb.msg.2.step hb8)
     have HLEN : Hid (cs'.length = 47) := hide HPJ.out.ms.len
     have HSO : Hid (strOnes cs') := hide HPJ.out.ms.ones
     clear hb8 hes
     by_cases heq : es = s
     ·have hq2 : (es.toList == s.toList) = true := by rw [heq]; simp
      have HNT : Hid (Takes s cs') := hide ⟨by rw [HDD.out]; exact HZ.out, HS0.out, by rw [HDD.out, HES.out]; exact heq⟩
      clear heq
      go_wp2_with (first
       | ((with_reducible refine at_load 41 (.tmp 58) ?_); refine wpList_load_gd rfl 41 (.tmp 58) rfl b 41 cs' _ HBB.out rfl Try.underlying41 rfl (msg_sizeE HLEN.out) ?_)
       | ((with_reducible refine at_store 41 (.tmp 2) ?_); refine wpList_store_own_t HO.out rfl 41 (.tmp 2) (.tmp 59) rfl 0 _ 0 _ _ cs' cs' rfl (.agg cs'.toArray) rfl rfl (fits_agg _) (by rw [zmsgI_len, HLEN.out]; exact Nat.le_refl _) (splice_all (by rw [zmsgI_len, HLEN.out])) (msg_sizeE HLEN.out) HSO.out ?_; intro W9 hO hB hT; replace HO := hide hO; replace HMS := hide (HMS.out.touch hT (fun s hs => by rw [List.mem_singleton.1 hs]; exact HGR.out)); clear hO hB hT))
      refine bodyPost_ret (results_row_tmp Try.results24 _ _ gR 41 _ (0, 0) _ _ rfl rfl (HO.out.blk 0 rfl) Try.underlying41 rfl (size_msg HLEN.out)) rfl ?_
      exact ⟨HO.out.below, _, _, HMS.out, .inl ⟨HNT.out, rfl⟩⟩
     ·have hq2 : (es.toList == s.toList) = false := by simpa [ByteArray.toList_eq, ← Array.toList_inj] using fun e => heq (ba_inj e)
      have HNT : Hid (¬ Takes s cs') := hide (fun h => heq (by rw [← HES.out, ← HDD.out]; exact h.2.2))
      clear heq
      go_wp2_with (first
       | ((with_reducible refine at_build 41 ?_); refine wpList_build rfl 41 #[] rfl [] (by simp) zmsgI.toArray zmsgI_built ?_)
       | ((with_reducible refine at_store 41 (.tmp 2) ?_); refine wpList_store_own_t HO.out rfl 41 (.tmp 2) (.tmp 56) rfl 0 _ 0 _ _ zmsgI zmsgI rfl (.agg zmsgI.toArray) rfl rfl (fits_agg _) (by rw [zmsgI_len]; exact Nat.le_refl _) (splice_all rfl) (msg_sizeE zmsgI_len) zmsgI_ones ?_; intro W9 hO hB hT; replace HO := hide hO; replace HMS := hide (HMS.out.touch hT (fun s hs => by rw [List.mem_singleton.1 hs]; exact HGR.out)); clear hO hB hT))
      refine bodyPost_ret (results_row_tmp Try.results24 _ _ gR 41 _ (0, 0) _ _ rfl rfl (HO.out.blk 0 rfl) Try.underlying41 rfl (size_msg zmsgI_len)) rfl ?_
      exact ⟨HO.out.below, _, _, HMS.out, .inr ⟨HNT.out, by rw [zmsgI_def]; rfl⟩⟩
   ·have hzb : (z == 0) = false := by simpa using h0
    have HNT : Hid (¬ Takes s cs') := hide (fun h => h0 (by rw [← HZ.out, ← HDD.out]; exact h.1))
    go_wp2_with (first
     | ((with_reducible refine at_build 41 ?_); refine wpList_build rfl 41 #[] rfl [] (by simp) zmsgI.toArray zmsgI_built ?_)
     | ((with_reducible refine at_store 41 (.tmp 2) ?_); refine wpList_store_own_t HO.out rfl 41 (.tmp 2) (.tmp 56) rfl 0 _ 0 _ _ zmsgI zmsgI rfl (.agg zmsgI.toArray) rfl rfl (fits_agg _) (by rw [zmsgI_len]; exact Nat.le_refl _) (splice_all rfl) (msg_sizeE zmsgI_len) zmsgI_ones ?_; intro W9 hO hB hT; replace HO := hide hO; replace HMS := hide (HMS.out.touch hT (fun s hs => by rw [List.mem_singleton.1 hs]; exact HGR.out)); clear hO hB hT))
    refine bodyPost_ret (results_row_tmp Try.results24 _ _ gR 41 _ (0, 0) _ _ rfl rfl (HO.out.blk 0 rfl) Try.underlying41 rfl (size_msg zmsgI_len)) rfl ?_
    exact ⟨HO.out.below, _, _, HMS.out, .inr ⟨HNT.out, by rw [zmsgI_def]; rfl⟩⟩
end
end Go.Proofs.Ytpbgelhjbfckcaa
