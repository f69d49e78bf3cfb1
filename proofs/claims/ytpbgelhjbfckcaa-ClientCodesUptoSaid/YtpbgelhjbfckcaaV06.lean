/- The table of the fields: whatever order is picked. -/
import Derived.Test.YtpbgelhjbfckcaaV05
import Derived.StringKeys
namespace Go.Proofs.Ytpbgelhjbfckcaa
set_option linter.unusedVariables false
set_option linter.unusedSimpArgs false
open Go.ChangeMaps Go.ChangeShapes Go.WideShapes Go.ChangeAt Go.RowKit
open Go.Maps (Keyed IsMap)
theorem enter_number : ∀ args w, (callFunc 60 args).run Try.prog w = .ok (.enter 60 args) w := enters Try.func60 (by kernel_rfl) (by kernel_rfl)
theorem enter_parts : ∀ args w, (callFunc 51 args).run Try.prog w = .ok (.enter 51 args) w := enters Try.func51 (by kernel_rfl) (by kernel_rfl)
theorem pD_131 : ∀ k, k < 86 → pD k ≠ 131 := by decide +kernel
theorem pD_159 : ∀ k, k < 86 → pD k ≠ 159 := by decide +kernel
theorem pD_160 : ∀ k, k < 86 → pD k ≠ 160 := by decide +kernel
theorem valS_131 : ∀ k, k < 14 → valS k ≠ 131 := by decide
theorem valS_159 : ∀ k, k < 14 → valS k ≠ 159 := by decide
theorem valS_160 : ∀ k, k < 14 → valS k = 160 → k = 12 := by decide
theorem step_sliceV {P : Program} {w : World} {ops : Array Oper} {o : Oper} {a : Act} {K : Act → World → Prop} {Q : Exit → Act → World → Prop} {E : Prop} (hgd : o.guard = none) (t e : TypeId) (parts : Array (Nat × Operand)) (vs : List Value) (n : Nat) (hn : n = vs.length) (ho : o.op = .buildSlice t n parts) (hv : (parts.map fun (i, x) => (i, a.eval x)).toList = (vs.zipIdx 0).map fun x => (x.2, x.1))
 (hu : P.underlying t = some (.slice e)) (hsz : (P.info? e).map (·.size) = some 1) (hz : ((P.info? e).bind (·.zero)).isSome = true) (h1 : ∀ v ∈ vs, v.cells = #[v]) (hpos : 0 < vs.length) (hsmall : vs.length ≤ 2 ^ 24)
 (h : ∀ w' g, Own w [] [(g, e, vs)] w' → K (a.put o.dst (.slice (some ⟨g, 0, none⟩) n n)) w') : if Region.wanted o (yielded ops a.tmps) = true then Oper.wp P o a w K Q else E := by
 subst hn
 have hw : Region.wanted o (yielded ops a.tmps) = true := by simp [Region.wanted, hgd]
 rw [if_pos hw]
 cases hie : P.info? e with
 | none => simp [hie] at hsz
 | some ie =>
  simp only [hie, Option.map_some, Option.some.injEq, Option.bind_some] at hsz hz
  obtain ⟨z, hzz⟩ := Option.isSome_iff_exists.1 hz
  have hO := (Own.nil w [] (by simp)).push (t := e) (cs := vs) (Blk.new w e vs.toArray) ((Below.refl _ _).alloc (Nat.le_refl _) _)
  refine wp_buildSlice t e vs.length parts ho vs.toArray ie z hu hie hzz (by rw [hsz]; omega) (by rw [hsz]; omega) ?_ (h _ _ (by simpa using hO))
  rw [hv, hsz]
  exact Great.fill_flat _ _ h1 (by simp)
variable {w0 w w' : World} {p : TP} {L0 L : LB} {l : Array Bool} {a : Act} {ops : Array Oper} {Q : Exit → Act → World → Prop}
theorem pDep_lt : ∀ k, k < 86 → ∀ j ∈ pDep k, j < 86 := by decide +kernel
theorem plain_step (hSS : SS p w) (h : FX w0 p L0 l a w L) (k : Nat) (hk : k < 86) (hi : pI k ∈ Region.ready .any ops9 l) (hu : l.getD (pI k) true = false) (hF : ∀ j, j < 14 → ∀ k, k < 86 → valS j = pD k → FValI L0 p.b p.bm j (pV p k)) : wpOp Try.prog ops9 Q (pI k) (fun a' w' => ∃ L, FX w0 p L0 (l.setIfInBounds (pI k) true) a' w' L) a w := by
 obtain ⟨o, ho, hdst, hg, hdep, hrun⟩ := plOps p k hk
 have hv := hrun a w h.keep hSS (fun j hj => h.pl j (pDep_lt k hk j hj) (ready_after hi ho (hdep j hj)))
 refine wpOp_step ho (fun K' hK => ?_)
 have hw : Region.wanted o (yielded ops9 a.tmps) = true := by simp [Region.wanted, hg]
 rw [if_pos hw]
 unfold Oper.wp
 rw [hv, Oper.upon_value, hdst]
 obtain ⟨q1, q2⟩ := pD_lt k hk
 simp only [List.mem_cons, List.not_mem_nil, or_false, not_or] at q2
 obtain ⟨q3, q4, q5, q6⟩ := pI_lt k hk
 refine hK _ _ ⟨_, h.call (pI k) (pD k) (pV p k) (N := []) (Own.nil w [] (by simp)) q3 hu (pI_ins k hk) q4 ⟨q1, q2.2.2.2.2.2.2.1, q2.2.2.2.2.2.2.2.1, q2.2.2.2.2.2.2.2.2.1⟩ (by simp only [List.mem_cons, List.not_mem_nil, or_false, not_or]; exact ⟨q2.1, q2.2.1, q2.2.2.1, q2.2.2.2.1, q2.2.2.2.2.1, q2.2.2.2.2.2.1⟩) (fun j hj e => ?_) (fun j hj e => ?_) (.inl ⟨q5, q2.2.2.2.2.2.2.2.2.2.1⟩) (.inl ⟨q6, q2.2.2.2.2.2.2.2.2.2.2⟩) (fun j hj e => (hF j hj k hk e).mono (fun e he => List.mem_append_left _ (h.sub e he))) (fun j hj e => pI_dep k hk j hj e)⟩
 ·obtain rfl := pI_inj j hj k hk e; exact ⟨rfl, rfl⟩
 ·obtain rfl := pD_inj j hj k hk e; rfl
theorem src_of (h : FX w0 p L0 l a w L) {i : Nat} (hi : i ∈ Region.ready .any ops9 l) (k : Nat) (hk : k < 86) (ho : ∃ o, ops9[i]? = some o ∧ (o.after.toList.any fun e => e.on == pI k && Region.binds .any e) = true) : sl a (pD k) = pV p k := by
 obtain ⟨o, h1, h2⟩ := ho
 exact h.pl k hk (ready_after hi h1 h2)
theorem num_step (hO : OpsT ops) (h : FX w0 p L0 l a w L) (i d src o : Nat) (lo hi : Int) (k : Nat) (hc : (i, d, src, lo, hi) ∈ ([(4, 72, 71, 0, 8), (9, 76, 75, 1, 8), (14, 80, 79, 1, 9223372036854775807), (17, 82, 81, 0, 17), (22, 86, 85, 0, 9223372036854775807), (27, 90, 89, 1, 9223372036854775807), (32, 94, 93, 1, 9223372036854775807)] : List (Nat × Nat × Nat × Int × Int)))
 (hsrc : sl a src = .pointer (some ⟨p.b, o, none⟩)) (hu : l.getD i true = false) (hi1 : i < 113) (hne : ∀ k, k < 14 → insI k ≠ i) (h0 : i ≠ 0 ∧ i ≠ 111 ∧ i ≠ 112) (hd : d < 166 ∧ d ≠ 68 ∧ d ≠ 165 ∧ d ≠ 2) (hdA : d ∉ [1, 3, 4, 5, 6, 10]) (hih : i ∈ hardL) (hpd : ∀ k, k < 86 → pD k ≠ d) (h1 : i ≠ 75 ∧ d ≠ 131) (h2 : i ≠ 103 ∧ d ≠ 159)
 (hk : ∀ j, j < 14 → valS j = d → j = k) (hdep : ∀ k, k < 14 → depI k = some i → valS k = d) (hF : ∀ N v, NumF N p.b o lo hi v → FValI N p.b p.bm k v) : wpOp Try.prog ops Q i (fun a' w' => ∃ L, FX w0 p L0 (l.setIfInBounds i true) a' w' L) a w := by
 obtain ⟨op, ho, hdst, hg, hop⟩ := hO.num _ hc
 replace hdst : op.dst = some d := hdst
 refine wpOp_step ho (fun K' hK => ?_)
 refine step_callV hg 60 enter_number _ _ hop #[.pointer (some ⟨p.b, o, none⟩), .int .i64 lo, .int .i64 hi] (by simp only [List.map_toArray, List.map_cons, List.map_nil, eval_sl, hsrc]; rfl) ?_
 refine (number_cV _ _ _ w).mono ?_
 rintro e w' ⟨bp, bl, bh, rfl, hN⟩
 refine ⟨_, rfl, hK _ _ ?_⟩
 rw [hdst]
 have hnf : NumF (L ++ [(bp, 121, [.pointer (some ⟨p.b, o, none⟩)]), (bl, 3, [.int .i64 lo]), (bh, 3, [.int .i64 hi])]) p.b o lo hi (.agg (fv 88 89 90 91 [at0 bp] [at0 bp] [at0 bp] [at0 bp, at0 bl, at0 bh]).toArray) := ⟨bp, bl, bh, rfl, by simp, by simp, by simp⟩
 exact ⟨_, h.call i d _ hN hi1 hu hne h0 hd hdA (fun j hj e => absurd e (pI_hard i hih j hj)) (fun j hj e => absurd e (hpd j hj)) (.inl h1) (.inl h2) (fun j hj hv => by rw [hk j hj hv]; exact hF _ _ hnf) hdep⟩
theorem key_name : ∀ k, k < 14 → keyOf Try.prog 9 (.string (fname k)) = some (flit k) := fun k hk => Go.WideMaps.keyOf_string_mk Try.underlying9 (by
 have : ∀ k, k < 14 → (fname k).size ≤ 20 := by decide
 have := this k hk
 unfold maxLen; omega)
theorem ins_step (hO : OpsT ops) (h : FX w0 p L0 l a w L) (k : Nat) (hk : k < 14) (hi : insI k ∈ Region.ready .any ops l) (hu : l.getD (insI k) true = false) : wpOp Try.prog ops Q (insI k) (fun a' w' => ∃ L, FX w0 p L0 (l.setIfInBounds (insI k) true) a' w' L) a w := by
 obtain ⟨op, ho, hdst, hg, hop, hd0, hdd⟩ := hO.ins k hk
 obtain ⟨mb, M, h1, h2, h3, h4⟩ := h.ins k hk hu (ready_after hi ho hd0) (fun j hj => ready_after hi ho (hdd j hj))
 refine wpOp_step ho (fun K' hK => ?_)
 refine step_insertV hg _ _ _ _ hop 9 101 (Go.Maps.string_keyed Try.underlying9) Try.underlying96 mb M.length _ h1 h2 (by unfold maxLen; omega) (.string (fname k)) (sl a (valS k)) (flit k) rfl rfl (key_name k hk) ?_
 intro w' hw ht
 rw [hdst]
 exact hK _ _ ⟨_, h4 w' hw ht⟩
theorem table_c (hO : OpsT ops9) (S : World → Prop) (hS : ∀ L w, (∀ e ∈ L0, e ∈ L) → Own w0 [] L w → S w) (hSS : ∀ L w, (∀ e ∈ L0, e ∈ L) → Own w0 [] L w → SS p w) (hF : ∀ j, j < 14 → ∀ k, k < 86 → valS j = pD k → FValI L0 p.b p.bm j (pV p k))
 (hQ : ∀ a w mb M L, sl a 2 = .map (some mb) → a.defers = [] → (∀ e ∈ L0, e ∈ L) → Own w0 [] L w → TabR w0 p.b p.bm mb M L w → Q .normal a w) (fuel : Nat) (hf : l.toList.count false ≤ fuel) (h : FX w0 p L0 l a w L) : wpAnyH Try.prog .any ops9 Q S fuel l a w := by
 refine wpAnyH_inv hO.back (fun l a w => ∃ L, FX w0 p L0 l a w L) (fun l a w ⟨L, h⟩ => hS L w h.sub h.own) ?_ ?_ fuel l a w (by rw [h.ls, hO.size]) hf ⟨L, h⟩
 ·intro l a w i hs ⟨L, h⟩ hi
  have hu := (mem_ready.1 hi).1
  have hi2 : i < 113 := by
   obtain ⟨_, o, ho, _⟩ := mem_ready.1 hi
   have := (Array.getElem?_eq_some_iff.1 ho).1
   rw [hO.size] at this
   exact this
  by_cases hm : i ∈ hardL
  case neg =>
   obtain ⟨k, hk, rfl⟩ := pI_ex i hi2 hm
   exact plain_step (hSS L w h.sub h.own) h k hk hi hu hF
  simp only [hardL, List.mem_cons, List.not_mem_nil, or_false] at hm
  have hins : ∀ k, k < 14 → i = insI k → wpOp Try.prog ops9 Q i (fun a' w' => ∃ L, FX w0 p L0 (l.setIfInBounds i true) a' w' L) a w := fun k hk e => by
   subst e
   exact ins_step hO h k hk hi hu
  rcases hm with rfl | rfl | rfl | rfl | rfl | rfl | rfl | rfl | rfl | rfl | rfl | rfl | rfl | rfl | rfl | rfl | rfl | rfl | rfl | rfl | rfl | rfl | rfl | rfl | rfl | rfl | rfl
  ·obtain ⟨op, ho, hdst, hg, hop⟩ := hO.make
   refine wpOp_step ho (fun K' hK => ?_)
   refine step_makeMapV hg _ hop ?_
   rw [hdst]
   exact hK _ _ ⟨_, h.make h.own.size hu⟩
  ·exact num_step hO h 4 72 71 1 0 8 0 (by simp) (src_of h hi 2 (by decide) ⟨_, rfl, by decide⟩) hu (by decide) (by decide) (by decide) (by decide) (by decide) (by decide) (by decide +kernel) (by decide) (by decide) (by decide) (by decide) (fun N v h => h)
  ·exact hins 0 (by decide) rfl
  ·exact num_step hO h 9 76 75 2 1 8 1 (by simp) (src_of h hi 5 (by decide) ⟨_, rfl, by decide⟩) hu (by decide) (by decide) (by decide) (by decide) (by decide) (by decide) (by decide +kernel) (by decide) (by decide) (by decide) (by decide) (fun N v h => h)
  ·exact hins 1 (by decide) rfl
  ·exact num_step hO h 14 80 79 3 1 9223372036854775807 2 (by simp) (src_of h hi 8 (by decide) ⟨_, rfl, by decide⟩) hu (by decide) (by decide) (by decide) (by decide) (by decide) (by decide) (by decide +kernel) (by decide) (by decide) (by decide) (by decide) (fun N v h => h)
  ·exact hins 2 (by decide) rfl
  ·exact num_step hO h 17 82 81 4 0 17 3 (by simp) (src_of h hi 9 (by decide) ⟨_, rfl, by decide⟩) hu (by decide) (by decide) (by decide) (by decide) (by decide) (by decide) (by decide +kernel) (by decide) (by decide) (by decide) (by decide) (fun N v h => h)
  ·exact hins 3 (by decide) rfl
  ·exact num_step hO h 22 86 85 6 0 9223372036854775807 4 (by simp) (src_of h hi 12 (by decide) ⟨_, rfl, by decide⟩) hu (by decide) (by decide) (by decide) (by decide) (by decide) (by decide) (by decide +kernel) (by decide) (by decide) (by decide) (by decide) (fun N v h => h)
  ·exact hins 4 (by decide) rfl
  ·exact num_step hO h 27 90 89 7 1 9223372036854775807 5 (by simp) (src_of h hi 15 (by decide) ⟨_, rfl, by decide⟩) hu (by decide) (by decide) (by decide) (by decide) (by decide) (by decide) (by decide +kernel) (by decide) (by decide) (by decide) (by decide) (fun N v h => h)
  ·exact hins 5 (by decide) rfl
  ·exact num_step hO h 32 94 93 8 1 9223372036854775807 6 (by simp) (src_of h hi 18 (by decide) ⟨_, rfl, by decide⟩) hu (by decide) (by decide) (by decide) (by decide) (by decide) (by decide) (by decide +kernel) (by decide) (by decide) (by decide) (by decide) (fun N v h => h)
  ·exact hins 6 (by decide) rfl
  ·exact hins 7 (by decide) rfl
  ·exact hins 8 (by decide) rfl
  ·exact hins 9 (by decide) rfl
  ·exact hins 10 (by decide) rfl
  ·exact hins 11 (by decide) rfl
  ·obtain ⟨op, ho, hdst, hg, hop⟩ := hO.sl8
   refine wpOp_step ho (fun K' hK => ?_)
   refine step_sliceV hg _ 121 _ (ptrL p.b offs8) 8 rfl hop ?_ Try.underlying125 (by kernel_rfl) (by kernel_rfl) (by simp [ptrL, offs8, Value.cells]) (by simp [ptrL, offs8]) (by simp [ptrL, offs8]) ?_
   ·have e109 : sl a 109 = .pointer (some ⟨p.b, 18, none⟩) := src_of h hi 33 (by decide) ⟨_, rfl, by decide⟩
    have e112 : sl a 112 = .pointer (some ⟨p.b, 19, none⟩) := src_of h hi 36 (by decide) ⟨_, rfl, by decide⟩
    have e115 : sl a 115 = .pointer (some ⟨p.b, 20, none⟩) := src_of h hi 39 (by decide) ⟨_, rfl, by decide⟩
    have e118 : sl a 118 = .pointer (some ⟨p.b, 21, none⟩) := src_of h hi 42 (by decide) ⟨_, rfl, by decide⟩
    have e121 : sl a 121 = .pointer (some ⟨p.b, 22, none⟩) := src_of h hi 45 (by decide) ⟨_, rfl, by decide⟩
    have e124 : sl a 124 = .pointer (some ⟨p.b, 23, none⟩) := src_of h hi 48 (by decide) ⟨_, rfl, by decide⟩
    have e127 : sl a 127 = .pointer (some ⟨p.b, 24, none⟩) := src_of h hi 51 (by decide) ⟨_, rfl, by decide⟩
    have e130 : sl a 130 = .pointer (some ⟨p.b, 25, none⟩) := src_of h hi 54 (by decide) ⟨_, rfl, by decide⟩
    simp only [List.map_toArray, List.map_cons, List.map_nil, eval_sl, ptrL, offs8, List.zipIdx, e109, e112, e115, e118, e121, e124, e127, e130]
   ·intro w' g hN
    rw [hdst]
    exact hK _ _ ⟨_, h.call 75 131 _ hN hi2 hu (by decide) (by decide) (by decide) (by decide) (fun j hj e => absurd e (pI_hard 75 (by decide) j hj)) (fun j hj e => absurd e (pD_131 j hj)) (.inr ⟨rfl, .inr ⟨g, rfl, by simp⟩⟩) (.inl (by decide)) (fun k hk e => absurd e (valS_131 k hk)) (by decide)⟩
  ·obtain ⟨op, ho, hdst, hg, hop⟩ := hO.sl7
   refine wpOp_step ho (fun K' hK => ?_)
   refine step_sliceV hg _ 126 _ (ptrL p.b offs7) 7 rfl hop ?_ Try.underlying127 (by kernel_rfl) (by kernel_rfl) (by simp [ptrL, offs7, Value.cells]) (by simp [ptrL, offs7]) (by simp [ptrL, offs7]) ?_
   ·have e135 : sl a 135 = .pointer (some ⟨p.b, 26, none⟩) := src_of h hi 58 (by decide) ⟨_, rfl, by decide⟩
    have e139 : sl a 139 = .pointer (some ⟨p.b, 27, none⟩) := src_of h hi 62 (by decide) ⟨_, rfl, by decide⟩
    have e143 : sl a 143 = .pointer (some ⟨p.b, 28, none⟩) := src_of h hi 66 (by decide) ⟨_, rfl, by decide⟩
    have e147 : sl a 147 = .pointer (some ⟨p.b, 29, none⟩) := src_of h hi 70 (by decide) ⟨_, rfl, by decide⟩
    have e151 : sl a 151 = .pointer (some ⟨p.b, 30, none⟩) := src_of h hi 74 (by decide) ⟨_, rfl, by decide⟩
    have e155 : sl a 155 = .pointer (some ⟨p.b, 31, none⟩) := src_of h hi 78 (by decide) ⟨_, rfl, by decide⟩
    have e158 : sl a 158 = .pointer (some ⟨p.b, 32, none⟩) := src_of h hi 81 (by decide) ⟨_, rfl, by decide⟩
    simp only [List.map_toArray, List.map_cons, List.map_nil, eval_sl, ptrL, offs7, List.zipIdx, e135, e139, e143, e147, e151, e155, e158]
   ·intro w' g hN
    rw [hdst]
    exact hK _ _ ⟨_, h.call 103 159 _ hN hi2 hu (by decide) (by decide) (by decide) (by decide) (fun j hj e => absurd e (pI_hard 103 (by decide) j hj)) (fun j hj e => absurd e (pD_159 j hj)) (.inl (by decide)) (.inr ⟨rfl, .inr ⟨g, rfl, by simp⟩⟩) (fun k hk e => absurd e (valS_159 k hk)) (by decide)⟩
  ·obtain ⟨op, ho, hdst, hg, hop, hd1, hd2⟩ := hO.parts
   have hp1 := h.s1 (ready_after hi ho hd1)
   have hp2 := h.s2 (ready_after hi ho hd2)
   obtain ⟨g1, e1, m1⟩ : ∃ g, sl a 131 = .slice (some ⟨g, 0, none⟩) 8 8 ∧ (g, 121, ptrL p.b offs8) ∈ L := by
    rcases hp1 with ⟨e, _⟩ | h1
    ·exact absurd e (by decide)
    ·exact h1
   obtain ⟨g2, e2, m2⟩ : ∃ g, sl a 159 = .slice (some ⟨g, 0, none⟩) 7 7 ∧ (g, 126, ptrL p.b offs7) ∈ L := by
    rcases hp2 with ⟨e, _⟩ | h1
    ·exact absurd e (by decide)
    ·exact h1
   refine wpOp_step ho (fun K' hK => ?_)
   refine step_callV hg 51 enter_parts _ _ hop #[.slice (some ⟨g1, 0, none⟩) 8 8, .slice (some ⟨g2, 0, none⟩) 7 7] (by simp only [List.map_toArray, List.map_cons, List.map_nil, eval_sl, e1, e2]) ?_
   refine (parts_c _ _ _ _ _ _ w).mono ?_
   rintro e w' ⟨bn, bl, rfl, hN⟩
   refine ⟨_, rfl, hK _ _ ?_⟩
   rw [hdst]
   refine ⟨_, h.call 104 160 _ hN hi2 hu (by decide) (by decide) (by decide) (by decide) (fun j hj e => absurd e (pI_hard 104 (by decide) j hj)) (fun j hj e => absurd e (pD_160 j hj)) (.inl (by decide)) (.inl (by decide)) (fun k hk e => ?_) (by decide)⟩
   have : k = 12 := valS_160 k hk e
   subst this
   exact ⟨bn, bl, rfl, _, _, by simp, by simp, .inr ⟨g1, rfl, List.mem_append_left _ m1⟩, .inr ⟨g2, rfl, List.mem_append_left _ m2⟩⟩
  ·exact hins 12 (by decide) rfl
  ·exact hins 13 (by decide) rfl
  ·obtain ⟨op, ho, hdst, hg, hop, hd⟩ := hO.move
   refine wpOp_step ho (fun K' hK => ?_)
   refine step_plainV hg (.tmp 68) (.inl hop) (sl a 68) rfl ?_
   rw [hdst]
   exact hK _ _ ⟨_, h.move (ready_after hi ho hd) hu⟩
  ·obtain ⟨op, ho, hdst, hg, hop, hd⟩ := hO.asg
   refine wpOp_step ho (fun K' hK => ?_)
   refine step_plainV hg (.tmp 165) (.inr hop) (sl a 165) rfl ?_
   rw [hdst]
   exact hK _ _ ⟨_, h.assign (ready_after hi ho hd) hu⟩
 ·intro l a w ⟨L, h⟩ hall
  have hT : ∀ j, j < 113 → T l j := fun j hj => by
   have h1 := hall j (by rw [hO.size]; exact hj)
   have h2 : j < l.size := by rw [h.ls]; exact hj
   simp only [T, Array.getD, h2, dif_pos] at h1 ⊢
   exact h1
  obtain ⟨mb, M, q1, q2, q3, q4, q5, q6, q7, q8, q9⟩ := h.map (hT 0 (by decide))
  refine hQ a w mb M L (by rw [(h.asg (hT 112 (by decide))).2, (h.mv (hT 111 (by decide))).2, q1]) h.df h.sub h.own ⟨q2, q3, q4, q5, q6, by omega, fun e he => ?_, fun k hk => q9 k hk (hT _ (insI_lt k hk))⟩
  obtain ⟨k, r1, r2, r3, r4⟩ := q8 e he
  exact ⟨k, r1, r3, r4⟩
theorem opsT9 : OpsT ops9 where
 size := by kernel_rfl
 back := by kernel_rfl
 make := ⟨_, rfl, rfl, rfl, rfl⟩
 num := by
  simp only [List.forall_mem_cons]
  exact ⟨⟨_, rfl, rfl, rfl, rfl⟩, ⟨_, rfl, rfl, rfl, rfl⟩, ⟨_, rfl, rfl, rfl, rfl⟩, ⟨_, rfl, rfl, rfl, rfl⟩, ⟨_, rfl, rfl, rfl, rfl⟩, ⟨_, rfl, rfl, rfl, rfl⟩, ⟨_, rfl, rfl, rfl, rfl⟩, fun _ h => by cases h⟩
 ins := fun k hk => by
  have : k = 0 ∨ k = 1 ∨ k = 2 ∨ k = 3 ∨ k = 4 ∨ k = 5 ∨ k = 6 ∨ k = 7 ∨ k = 8 ∨ k = 9 ∨ k = 10 ∨ k = 11 ∨ k = 12 ∨ k = 13 := by omega
  rcases this with rfl | rfl | rfl | rfl | rfl | rfl | rfl | rfl | rfl | rfl | rfl | rfl | rfl | rfl
  all_goals exact ⟨_, rfl, rfl, rfl, rfl, by decide, fun j hj => by injection hj with hj; subst hj; decide⟩
 sl8 := ⟨_, rfl, rfl, rfl, rfl⟩
 sl7 := ⟨_, rfl, rfl, rfl, rfl⟩
 parts := ⟨_, rfl, rfl, rfl, rfl, by decide, by decide⟩
 move := ⟨_, rfl, rfl, rfl, rfl, by decide⟩
 asg := ⟨_, rfl, rfl, rfl, rfl, by decide⟩
theorem T_none (n j : Nat) : ¬ T (Array.replicate n false) j := fun h => by
 unfold T at h
 simp only [Array.getD, Array.size_replicate] at h
 split at h
 ·simp at h
 ·cases h
/-- The region of the table. -/
theorem region9 (hk : KeepA p a) (hd : a.defers = []) (hsz : a.tmps.size = 166) (hO : Own w0 [] L0 w) (hSS : ∀ L w, (∀ e ∈ L0, e ∈ L) → Own w0 [] L w → SS p w) (hF : ∀ j, j < 14 → ∀ k, k < 86 → valS j = pD k → FValI L0 p.b p.bm j (pV p k))
 (hQ : ∀ a w mb M L, sl a 2 = .map (some mb) → a.defers = [] → (∀ e ∈ L0, e ∈ L) → Own w0 [] L w → TabR w0 p.b p.bm mb M L w → Q .normal a w) : (Code.region 9 ops9 true).wp Try.prog Q a w := by
 refine wp_region_held_drew (S := fun _ => True) (by kernel_rfl) trivial (fun _ => ?_)
 refine table_c (L := L0) opsT9 _ (fun _ _ _ _ => trivial) hSS hF hQ _ (by simp) ⟨hd, hsz, by simp [opsT9.size], hk, fun k hk ht => absurd ht (T_none _ _), fun e he => he, hO.drew, fun ht => absurd ht (T_none _ _), fun ht => absurd ht (T_none _ _), fun k hk ht => ?_, fun ht => absurd ht (T_none _ _), fun k hk ht => absurd ht (T_none _ _), fun ht => absurd ht (T_none _ _), fun ht => absurd ht (T_none _ _)⟩
 have : ∀ k, k < 14 → ∃ j, depI k = some j := by
  intro k hk
  have h1 : ∀ k, k < 14 → (depI k).isSome = true := by decide
  exact Option.isSome_iff_exists.1 (h1 k hk)
 obtain ⟨j, hj⟩ := this k hk
 exact absurd (ht j hj) (T_none _ _)
end Go.Proofs.Ytpbgelhjbfckcaa
