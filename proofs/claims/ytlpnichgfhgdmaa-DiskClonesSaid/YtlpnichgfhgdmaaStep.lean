/- The law's step. -/
import Derived.Test.YtlpnichgfhgdmaaFns
namespace Go.Proofs.Ytlpnichgfhgdmaa
open Go.ChangeShapes Go.WideShapes Go.ChangeAt Go.RowKit
set_option linter.unusedVariables false
set_option linter.unusedSimpArgs false

/-- What an operation does to a disk. -/
def dStep (D : DS) (x : OpV) : DS :=
  if x.kind = 0 then (dWrite D x.page (dataOf x)).1 else if x.kind = 2 then (dSync D).1 else if x.kind = 3 then dFailAfter D x.n else if x.kind = 4 then dCrash D x.sl else D
/-- The disk and the reference have done the same. -/
def StepR (w : World) (F : List Nat) (D : DS) (e : Ending) (w' : World) : Prop :=
  ∃ (d : Nat) (F' : List Nat) (v : Value), e = .returned (.tuple #[.pointer (some ⟨d, 0, none⟩), v, .bool true]) ∧ Disk w' d F' D ∧ Rf w' F' v D ∧ Touch F w w' ∧ ∀ j ∈ F', j ∈ F ∨ w.heap.size ≤ j
theorem Disk.lt {w : World} {d : Nat} {F : List Nat} {D : DS} (h : Disk w d F D) : ∀ j ∈ F, j < w.heap.size := by obtain ⟨gv, pv, h⟩ := h; exact h.lt
theorem have_tail3 {goal : Prop} {G I : Nat → Value → Value → World → Prop} (main : (∀ g v u w, I g v u w → G g v u w) → goal) (tl : ∀ g v u w, I g v u w → G g v u w) : goal := main tl

/-- The three blocks that step lays first. -/
structure Base3 (w : World) (A : Option Addr) (n c : Nat) (B : Option Addr) (m b : Nat) (z : Int) (fl : Bool) (x : OpV) (sv : Value) (W : World) : Prop where
  ref : Blk W w.heap.size 53 #[.slice A n c, .slice B m b, .int .i64 z, .bool fl]
  op : Blk W (w.heap.size + 1) 45 #[.int .i64 x.kind, .int .i64 x.page, .int .i64 x.n, .int .u8 x.fill, .int .u8 x.short, sv]
  res : Blk W (w.heap.size + 2) 53 #[.slice none 0 0, .slice none 0 0, .int .i64 0, .bool false]
  size : w.heap.size + 3 ≤ W.heap.size
theorem Base3.touch {w W W' : World} {A : Option Addr} {n c : Nat} {B : Option Addr} {m b : Nat} {z : Int} {fl : Bool} {x : OpV} {sv : Value} {S : List Nat} (h : Base3 w A n c B m b z fl x sv W) (k : Touch S W W') (hS : ∀ j ∈ S, j < w.heap.size ∨ w.heap.size + 3 ≤ j) : Base3 w A n c B m b z fl x sv W' :=
  ⟨h.ref.touch k (fun hm => by have := hS _ hm; omega), h.op.touch k (fun hm => by have := hS _ hm; omega), h.res.touch k (fun hm => by have := hS _ hm; omega), Nat.le_trans h.size k.size⟩
theorem base3_new (w : World) (A : Option Addr) (n c : Nat) (B : Option Addr) (m b : Nat) (z : Int) (fl : Bool) (x : OpV) (sv : Value) :
    Base3 w A n c B m b z fl x sv (((w.alloc (.cells #[.slice A n c, .slice B m b, .int .i64 z, .bool fl] 53)).alloc (.cells #[.int .i64 x.kind, .int .i64 x.page, .int .i64 x.n, .int .u8 x.fill, .int .u8 x.short, sv] 45)).alloc (.cells #[.slice none 0 0, .slice none 0 0, .int .i64 0, .bool false] 53)) := by
  refine ⟨blk_first w _ _ _ _, blk_second w _ _ _ _, ?_, by simp [Nat.add_assoc]⟩
  have h := Blk.new ((w.alloc (.cells #[.slice A n c, .slice B m b, .int .i64 z, .bool fl] 53)).alloc (.cells #[.int .i64 x.kind, .int .i64 x.page, .int .i64 x.n, .int .u8 x.fill, .int .u8 x.short, sv] 45)) 53 #[.slice none 0 0, .slice none 0 0, .int .i64 0, .bool false]
  simp only [World.size_alloc] at h
  exact h
theorem blk6 {w : World} {g : Nat} {t : TypeId} {a b c d e f : Value} (h : Blk w g t #[a, b, c, d, e, f]) :
    w.cell? ⟨g, 0, none⟩ = some a ∧ w.cell? ⟨g, 1, none⟩ = some b ∧ w.cell? ⟨g, 2, none⟩ = some c ∧ w.cell? ⟨g, 3, none⟩ = some d ∧ w.cell? ⟨g, 4, none⟩ = some e ∧ w.cell? ⟨g, 5, none⟩ = some f :=
  ⟨h.cell 0, h.cell 1, h.cell 2, h.cell 3, h.cell 4, h.cell 5⟩
theorem Rf.plus {w X : World} {F : List Nat} {v : Value} {D : DS} (h : Rf w F v D) (k : Below w.heap.size w X) (L : List Nat) (hL : ∀ j ∈ L, w.heap.size ≤ j) : Rf X (L ++ F) v D :=
  h.touch (Touch.below k F) fun j hj => by
    rcases List.mem_append.1 hj with e | e
    · exact .inr (hL j e)
    · exact .inl e
theorem Rf.less {w : World} {F F' : List Nat} {v : Value} {D : DS} (h : Rf w F v D) (hF : ∀ j ∈ F', j ∈ F) : Rf w F' v D := h.touch (Touch.refl _ _) fun j hj => .inl (hF j hj)
/-- What stands behind the first of the two statements of a write. -/
def WrI (w : World) (F : List Nat) (D' : DS) (A : Option Addr) (n c : Nat) (B : Option Addr) (m b : Nat) (z : Int) (fl : Bool) (x : OpV) (sv : Value) (g : Nat) (v : Value) (W : World) : Prop :=
  Rf W ([w.heap.size, w.heap.size + 1, w.heap.size + 2, g] ++ F) v D' ∧ Base3 w A n c B m b z fl x sv W ∧ Blk W g 53 #[.slice none 0 0, .slice none 0 0, .int .i64 0, .bool false] ∧ Below w.heap.size w W ∧ w.heap.size + 3 ≤ g
theorem s3_of {w W : World} {A : Option Addr} {n c : Nat} {B : Option Addr} {m b : Nat} {z : Int} {fl : Bool} {x : OpV} {As : Option Addr} {ms cs : Nat} (h : Base3 w A n c B m b z fl x (.slice As ms cs) W) :
    (fun w' => (w'.cell? ⟨w.heap.size, 0, none⟩ = some (.slice A n c) ∧ w'.cell? ⟨w.heap.size, 1, none⟩ = some (.slice B m b) ∧ w'.cell? ⟨w.heap.size, 2, none⟩ = some (.int .i64 z) ∧ w'.cell? ⟨w.heap.size, 3, none⟩ = some (.bool fl)) ∧ (w'.cell? ⟨w.heap.size + 1, 0, none⟩ = some (.int .i64 x.kind) ∧ w'.cell? ⟨w.heap.size + 1, 1, none⟩ = some (.int .i64 x.page) ∧ w'.cell? ⟨w.heap.size + 1, 2, none⟩ = some (.int .i64 x.n) ∧ w'.cell? ⟨w.heap.size + 1, 3, none⟩ = some (.int .u8 x.fill) ∧ w'.cell? ⟨w.heap.size + 1, 4, none⟩ = some (.int .u8 x.short) ∧ w'.cell? ⟨w.heap.size + 1, 5, none⟩ = some (.slice As ms cs))) W := by
  obtain ⟨a0, a1, a2, a3, _⟩ := blk4 h.ref
  exact ⟨⟨a0, a1, a2, a3⟩, blk6 h.op⟩
theorem s4_of2 {w W : World} {g : Nat} {A : Option Addr} {n c : Nat} {B : Option Addr} {m b : Nat} {z1 : Int} {fl1 : Bool} {x : OpV} {As : Option Addr} {ms cs : Nat} (hg : Blk W g 53 #[.slice A n c, .slice B m b, .int .i64 z1, .bool fl1]) (ho : Blk W (w.heap.size + 1) 45 #[.int .i64 x.kind, .int .i64 x.page, .int .i64 x.n, .int .u8 x.fill, .int .u8 x.short, .slice As ms cs]) :
    (fun w' => (w'.cell? ⟨g, 0, none⟩ = some (.slice A n c) ∧ w'.cell? ⟨g, 1, none⟩ = some (.slice B m b) ∧ w'.cell? ⟨g, 2, none⟩ = some (.int .i64 z1) ∧ w'.cell? ⟨g, 3, none⟩ = some (.bool fl1)) ∧ (w'.cell? ⟨w.heap.size + 1, 0, none⟩ = some (.int .i64 x.kind) ∧ w'.cell? ⟨w.heap.size + 1, 1, none⟩ = some (.int .i64 x.page) ∧ w'.cell? ⟨w.heap.size + 1, 2, none⟩ = some (.int .i64 x.n) ∧ w'.cell? ⟨w.heap.size + 1, 3, none⟩ = some (.int .u8 x.fill) ∧ w'.cell? ⟨w.heap.size + 1, 4, none⟩ = some (.int .u8 x.short) ∧ w'.cell? ⟨w.heap.size + 1, 5, none⟩ = some (.slice As ms cs))) W := by
  obtain ⟨a0, a1, a2, a3, _⟩ := blk4 hg
  exact ⟨⟨a0, a1, a2, a3⟩, blk6 ho⟩
theorem s4_of {w W : World} {g : Nat} {A A2 : Option Addr} {n c n2 c2 : Nat} {B B2 : Option Addr} {m b m2 b2 : Nat} {z z1 : Int} {fl fl1 : Bool} {x : OpV} {As : Option Addr} {ms cs : Nat} (hg : Blk W g 53 #[.slice A n c, .slice B m b, .int .i64 z1, .bool fl1]) (h : Base3 w A2 n2 c2 B2 m2 b2 z fl x (.slice As ms cs) W) :
    (fun w' => (w'.cell? ⟨g, 0, none⟩ = some (.slice A n c) ∧ w'.cell? ⟨g, 1, none⟩ = some (.slice B m b) ∧ w'.cell? ⟨g, 2, none⟩ = some (.int .i64 z1) ∧ w'.cell? ⟨g, 3, none⟩ = some (.bool fl1)) ∧ (w'.cell? ⟨w.heap.size + 1, 0, none⟩ = some (.int .i64 x.kind) ∧ w'.cell? ⟨w.heap.size + 1, 1, none⟩ = some (.int .i64 x.page) ∧ w'.cell? ⟨w.heap.size + 1, 2, none⟩ = some (.int .i64 x.n) ∧ w'.cell? ⟨w.heap.size + 1, 3, none⟩ = some (.int .u8 x.fill) ∧ w'.cell? ⟨w.heap.size + 1, 4, none⟩ = some (.int .u8 x.short) ∧ w'.cell? ⟨w.heap.size + 1, 5, none⟩ = some (.slice As ms cs))) W := s4_of2 hg h.op
theorem l3_ok (w : World) {X : World} (h : w.heap.size + 3 ≤ X.heap.size) : ∀ j ∈ [w.heap.size, w.heap.size + 1, w.heap.size + 2], w.heap.size ≤ j ∧ j < X.heap.size := by intro j hj; simp at hj; omega
theorem l4_ok (w : World) {X : World} {o : Obj} (h : w.heap.size + 3 ≤ X.heap.size) : ∀ j ∈ [w.heap.size, w.heap.size + 1, w.heap.size + 2, X.heap.size], w.heap.size ≤ j ∧ j < (X.alloc o).heap.size := by intro j hj; rw [World.size_alloc]; simp at hj; omega
theorem l4_le (w : World) {X Y : World} (h : w.heap.size + 3 ≤ X.heap.size) (k : X.heap.size + 1 ≤ Y.heap.size) : ∀ j ∈ [w.heap.size, w.heap.size + 1, w.heap.size + 2, X.heap.size], w.heap.size ≤ j ∧ j < Y.heap.size := by intro j hj; simp at hj; omega
theorem Base3.drew {w W : World} {A : Option Addr} {n c : Nat} {B : Option Addr} {m b : Nat} {z : Int} {fl : Bool} {x : OpV} {sv : Value} (h : Base3 w A n c B m b z fl x sv W) : Base3 w A n c B m b z fl x sv W.drew := ⟨h.ref, h.op, h.res, h.size⟩
theorem wri_alloc {w Wp : World} {F : List Nat} {D' : DS} {A : Option Addr} {n c : Nat} {B : Option Addr} {m b : Nat} {z : Int} {fl : Bool} {x : OpV} {sv vr : Value}
    (h : Rf Wp ([w.heap.size, w.heap.size + 1, w.heap.size + 2] ++ F) vr D') (hb : Base3 w A n c B m b z fl x sv Wp) (k : Below w.heap.size w Wp) :
    WrI w F D' A n c B m b z fl x sv Wp.heap.size vr (Wp.alloc (.cells #[.slice none 0 0, .slice none 0 0, .int .i64 0, .bool false] 53)) := by
  refine ⟨?_, hb.touch ((Touch.refl [] _).alloc _) (by simp), Blk.new _ _ _, k.alloc k.size _, hb.size⟩
  refine h.touch (Touch.below ((Below.refl _ _).alloc (Nat.le_refl _) _) _) fun j hj => ?_
  simp at hj ⊢
  rcases hj with e | e | e | e | e
  · exact .inl (.inl e)
  · exact .inl (.inr (.inl e))
  · exact .inl (.inr (.inr (.inl e)))
  · right; omega
  · exact .inl (.inr (.inr (.inr e)))
theorem wri_put {w X Wp : World} {F : List Nat} {D' : DS} {A : Option Addr} {n c : Nat} {B : Option Addr} {m b : Nat} {z : Int} {fl : Bool} {x : OpV} {sv vr : Value} {g : Nat}
    (h : Rf Wp ([w.heap.size, w.heap.size + 1, w.heap.size + 2, g] ++ F) vr D') (hb : Base3 w A n c B m b z fl x sv X) (hg : Blk X g 53 #[.slice none 0 0, .slice none 0 0, .int .i64 0, .bool false]) (k : Below w.heap.size w X) (hl : w.heap.size + 3 ≤ g) (kp : Below X.heap.size X Wp) :
    WrI w F D' A n c B m b z fl x sv g vr Wp :=
  ⟨h, hb.touch (Touch.below kp []) (by simp), hg.step kp, k.trans (kp.mono k.size), hl⟩

set_option maxRecDepth 100000 in
set_option maxHeartbeats 8000000 in
theorem step_write (d : Nat) (F : List Nat) (v : Value) (D : DS) (x : OpV) (w : World) (hkind : x.kind = 0) (h : Disk w d F D) (hr : Rf w F v D) (hx : x.Ok w) (hpl : D.pend.length ≤ 100000) (hpg : D.pages.length ≤ 100000) :
    Calls Try.prog 28 #[.pointer (some ⟨d, 0, none⟩), v, x.val] w (StepR w F (dStep D x)) := by
  obtain ⟨As, ms, cs, hsv, _, _, _⟩ := hx.surv.formN
  obtain ⟨A, n, c, B, m, b, vs, xs, rfl, hk⟩ := hr.form
  have HLT := hide h.lt
  have HD0 := hide h
  have HR0 := hide hr
  have HSV := hide hsv
  have HDA := hide (fun (X : World) (k : Below w.heap.size w X) => data_c x X (hx.step k))
  unfold OpV.val at HDA ⊢
  rw [hsv] at HDA ⊢
  have hd : dStep D x = (dWrite D x.page (dataOf x)).1 := by unfold dStep; rw [if_pos hkind]
  rw [hd]
  have HPU := hide (fun (X : World) (L : List Nat) (vd : Value) (k : Below w.heap.size w X) (hL : ∀ j ∈ L, w.heap.size ≤ j ∧ j < X.heap.size) (hvd : Bs X vd (dataOf x)) =>
    put_c (L ++ F) (rv (.slice A n c) (.slice B m b) D) D x.page (dataOf x) vd X (hr.plus k L (fun j hj => (hL j hj).1)) (fun j hj => by
      rcases List.mem_append.1 hj with e | e
      · exact (hL j e).2
      · exact Nat.lt_of_lt_of_le (h.lt j e) k.size) hvd (by omega))
  have HWR := hide (fun (X : World) (vd : Value) (hX : Disk X d F D) (hvd : Bs X vd (dataOf x)) (hF : ∀ j, vd.ownBlock = some j → j ∉ F ∧ j < X.heap.size) => write_c d F D x.page vd (dataOf x) X hX hvd (fun _ => hF) (by omega))
  unfold GivesRE at HPU
  unfold rv at HPU ⊢
  generalize hwd : dWrite D x.page (dataOf x) = r at *
  obtain ⟨r1, ec⟩ := r
  simp only at HPU HWR ⊢
  generalize hz : D.fuse = z at *
  generalize hfl : D.failed = fl at *
  have hk0 : (x.kind == 0) = true := by simpa using hkind
  clear h hr hx hpl hpg hk hd hwd hz hfl hkind hsv
  go_enter Try.func28, Try.ntmps28
  go_wp2_with fail
  obtain ⟨Wb, hWb⟩ : ∃ Wb, Wb = (((w.alloc (.cells #[.slice A n c, .slice B m b, .int .i64 z, .bool fl] 53)).alloc (.cells #[.int .i64 x.kind, .int .i64 x.page, .int .i64 x.n, .int .u8 x.fill, .int .u8 x.short, .slice As ms cs] 45)).alloc (.cells #[.slice none 0 0, .slice none 0 0, .int .i64 0, .bool false] 53)) := ⟨_, rfl⟩
  rw [← hWb]
  have HB3 : Hid (Base3 w A n c B m b z fl x (.slice As ms cs) Wb) := hide (by rw [hWb]; exact base3_new w A n c B m b z fl x _)
  have HBW : Hid (Below w.heap.size w Wb) := hide (by rw [hWb]; exact below_three w _ _ _)
  clear hWb
  refine wp_region_held_drew (S := fun w' => (w'.cell? ⟨w.heap.size, 0, none⟩ = some (.slice A n c) ∧ w'.cell? ⟨w.heap.size, 1, none⟩ = some (.slice B m b) ∧ w'.cell? ⟨w.heap.size, 2, none⟩ = some (.int .i64 z) ∧ w'.cell? ⟨w.heap.size, 3, none⟩ = some (.bool fl)) ∧ (w'.cell? ⟨w.heap.size + 1, 0, none⟩ = some (.int .i64 x.kind) ∧ w'.cell? ⟨w.heap.size + 1, 1, none⟩ = some (.int .i64 x.page) ∧ w'.cell? ⟨w.heap.size + 1, 2, none⟩ = some (.int .i64 x.n) ∧ w'.cell? ⟨w.heap.size + 1, 3, none⟩ = some (.int .u8 x.fill) ∧ w'.cell? ⟨w.heap.size + 1, 4, none⟩ = some (.int .u8 x.short) ∧ w'.cell? ⟨w.heap.size + 1, 5, none⟩ = some (.slice As ms cs))) (by kernel_rfl) (s3_of HB3.out.drew) (fun hS0 => ?_)
  simp only [List.size_toArray, List.length_cons, List.length_nil, Nat.reduceAdd, Array.replicate_succ, Array.replicate_zero, List.push_toArray, List.append_toArray, List.nil_append, List.cons_append]
  refine wpAnyH_take (i := 0) (v := ?vz0) rfl (by kernel_rfl) (by kernel_rfl) (by kernel_rfl) (fun _ _ _ h => h) (Or.inl ⟨by rfl, ?hyz0⟩) (by assumption) ?restz0
  case hyz0 => (intro w hSw; (try dsimp only at hSw); go_simp; first | done | (with_reducible rfl))
  try simp only [Act.put, List.getElem_toArray, List.getElem_cons_zero, List.getElem_cons_succ, List.setIfInBounds_toArray, List.set_cons_zero, List.set_cons_succ]
  refine wpAnyH_take (i := 1) (v := ?vz1) rfl (by kernel_rfl) (by kernel_rfl) (by kernel_rfl) (fun _ _ _ h => h) (Or.inl ⟨by rfl, ?hyz1⟩) (by assumption) ?restz1
  case hyz1 => (intro w hSw; (try dsimp only at hSw); go_simp; first | done | (with_reducible rfl))
  try simp only [Act.put, List.getElem_toArray, List.getElem_cons_zero, List.getElem_cons_succ, List.setIfInBounds_toArray, List.set_cons_zero, List.set_cons_succ]
  refine wpAnyH_take (i := 2) (v := ?vz2) rfl (by kernel_rfl) (by kernel_rfl) (by kernel_rfl) (fun _ _ _ h => h) (Or.inl ⟨by rfl, ?hyz2⟩) (by assumption) ?restz2
  case hyz2 => (intro w hSw; (try dsimp only at hSw); go_simp; first | done | (with_reducible rfl))
  try simp only [Act.put, List.getElem_toArray, List.getElem_cons_zero, List.getElem_cons_succ, List.setIfInBounds_toArray, List.set_cons_zero, List.set_cons_succ]
  refine wpAnyH_take (i := 3) (v := ?vz3) rfl (by kernel_rfl) (by kernel_rfl) (by kernel_rfl) (fun _ _ _ h => h) (Or.inl ⟨by rfl, ?hyz3⟩) (by assumption) ?restz3
  case hyz3 => (intro w hSw; (try dsimp only at hSw); go_simp; first | done | (with_reducible rfl))
  try simp only [Act.put, List.getElem_toArray, List.getElem_cons_zero, List.getElem_cons_succ, List.setIfInBounds_toArray, List.set_cons_zero, List.set_cons_succ]
  refine' have_tail3 (I := fun g v _ W => WrI w F r1 A n c B m b z fl x (.slice As ms cs) g v W) (fun tail => ?_) ?_
  rotate_left
  · refine wpAnyH_ready (rs := [4, 9]) (by kernel_rfl) (by simp) ?_
    refine AllReadyH.cons rfl (fun K hK => ?_) (AllReadyH.cons rfl (fun K hK => ?_) AllReadyH.nil)
    · go_simp
      refine (HDA.out Wb.drew HBW.out.drew).mono ?_
      rintro e Wd ⟨vd, rfl, how, hbd⟩
      have HV := hide how.bs
      have HVL := hide how.lt
      have HBD := hide (HBW.out.drew.trans (hbd.mono HBW.out.drew.size))
      have HBS := hide (HB3.out.drew.touch (Touch.below hbd []) (by simp))
      have HZD := hide hbd
      clear how hbd
      refine hK.out _ _ (s3_of HBS.out) (fun _ => ?_)
      clear hK K
      try simp only [Act.put, List.getElem_toArray, List.getElem_cons_zero, List.getElem_cons_succ, List.setIfInBounds_toArray, List.set_cons_zero, List.set_cons_succ]
      refine wpAnyH_ready (rs := [5, 9]) (by kernel_rfl) (by simp) ?_
      refine AllReadyH.cons rfl (fun K hK => ?_) (AllReadyH.cons rfl (fun K hK => ?_) AllReadyH.nil)
      · go_simp
        refine (HPU.out Wd [w.heap.size, w.heap.size + 1, w.heap.size + 2] _ HBD.out (l3_ok w HBS.out.size) HV.out).mono ?_
        rintro e Wp ⟨vr, rfl, hrp, hbp⟩
        have HRP := hide hrp
        have HBP := hide (HBD.out.trans (hbp.mono HBD.out.size))
        have HBSP := hide (HBS.out.touch (Touch.below hbp []) (by simp))
        clear hrp hbp
        refine hK.out _ _ (s3_of HBSP.out) (fun _ => ?_)
        clear hK K
        try simp only [Act.put, List.getElem_toArray, List.getElem_cons_zero, List.getElem_cons_succ, List.setIfInBounds_toArray, List.set_cons_zero, List.set_cons_succ]
        refine wpAnyH_take (i := 6) (v := ?va6) rfl (by kernel_rfl) (by kernel_rfl) (by kernel_rfl) (fun _ _ _ h => h) (Or.inl ⟨by rfl, ?hya6⟩) (by assumption) ?resta6
        case hya6 => (intro w hSw; (try dsimp only at hSw); go_simp; first | done | (with_reducible rfl))
        try simp only [Act.put, List.getElem_toArray, List.getElem_cons_zero, List.getElem_cons_succ, List.setIfInBounds_toArray, List.set_cons_zero, List.set_cons_succ]
        refine wpAnyH_take (i := 7) (v := ?va7) rfl (by kernel_rfl) (by kernel_rfl) (by kernel_rfl) (fun _ _ _ h => h) (Or.inl ⟨by rfl, ?hya7⟩) (by assumption) ?resta7
        case hya7 => (intro w hSw; (try dsimp only at hSw); go_simp; first | done | (with_reducible rfl))
        try simp only [Act.put, List.getElem_toArray, List.getElem_cons_zero, List.getElem_cons_succ, List.setIfInBounds_toArray, List.set_cons_zero, List.set_cons_succ]
        refine wpAnyH_take (i := 8) (v := ?va8) rfl (by kernel_rfl) (by kernel_rfl) (by kernel_rfl) (fun _ _ _ h => h) (Or.inl ⟨by rfl, ?hya8⟩) (by assumption) ?resta8
        case hya8 => (intro w hSw; (try dsimp only at hSw); go_simp; first | done | (with_reducible rfl))
        try simp only [Act.put, List.getElem_toArray, List.getElem_cons_zero, List.getElem_cons_succ, List.setIfInBounds_toArray, List.set_cons_zero, List.set_cons_succ]
        refine wpAnyH_ready (rs := [9]) (by kernel_rfl) (by simp) ?_
        refine AllReadyH.cons rfl (fun K hK => ?_) AllReadyH.nil
        go_simp
        refine hK.out _ _ (s3_of (HBSP.out.touch ((Touch.refl [] _).alloc _) (by simp))) (fun _ => ?_)
        clear hK K
        try simp only [Act.put, List.getElem_toArray, List.getElem_cons_zero, List.getElem_cons_succ, List.setIfInBounds_toArray, List.set_cons_zero, List.set_cons_succ]
        obtain ⟨g, hg⟩ : ∃ g, g = Wp.heap.size := ⟨_, rfl⟩
        rw [← hg]
        obtain ⟨We, hWe⟩ : ∃ We, We = Wp.alloc (.cells #[.slice none 0 0, .slice none 0 0, .int .i64 0, .bool false] 53) := ⟨_, rfl⟩
        rw [← hWe]
        exact tail g vr vd We (by subst hWe hg; exact wri_alloc HRP.out HBSP.out HBP.out)
      · go_simp
        refine hK.out _ _ (s3_of (HBS.out.touch ((Touch.refl [] _).alloc _) (by simp))) (fun _ => ?_)
        clear hK K
        try simp only [Act.put, List.getElem_toArray, List.getElem_cons_zero, List.getElem_cons_succ, List.setIfInBounds_toArray, List.set_cons_zero, List.set_cons_succ]
        refine wpAnyH_ready (rs := [5]) (by kernel_rfl) (by simp) ?_
        refine AllReadyH.cons rfl (fun K hK => ?_) AllReadyH.nil
        go_simp
        refine (HPU.out (Wd.alloc (.cells #[.slice none 0 0, .slice none 0 0, .int .i64 0, .bool false] 53)) [w.heap.size, w.heap.size + 1, w.heap.size + 2, Wd.heap.size] _ (HBD.out.alloc HBD.out.size _) (l4_ok w HBS.out.size) (HV.out.alloc _)).mono ?_
        rintro e Wp ⟨vr, rfl, hrp, hbp⟩
        have HRP := hide hrp
        have HWI := hide (wri_put HRP.out (HBS.out.touch ((Touch.refl [] _).alloc _) (by simp)) (Blk.new Wd _ _) (HBD.out.alloc HBD.out.size _) HBS.out.size hbp)
        clear hrp hbp
        refine hK.out _ _ (s3_of HWI.out.2.1) (fun _ => ?_)
        clear hK K
        try simp only [Act.put, List.getElem_toArray, List.getElem_cons_zero, List.getElem_cons_succ, List.setIfInBounds_toArray, List.set_cons_zero, List.set_cons_succ]
        refine wpAnyH_take (i := 6) (v := ?vb6) rfl (by kernel_rfl) (by kernel_rfl) (by kernel_rfl) (fun _ _ _ h => h) (Or.inl ⟨by rfl, ?hyb6⟩) (by assumption) ?restb6
        case hyb6 => (intro w hSw; (try dsimp only at hSw); go_simp; first | done | (with_reducible rfl))
        try simp only [Act.put, List.getElem_toArray, List.getElem_cons_zero, List.getElem_cons_succ, List.setIfInBounds_toArray, List.set_cons_zero, List.set_cons_succ]
        refine wpAnyH_take (i := 7) (v := ?vb7) rfl (by kernel_rfl) (by kernel_rfl) (by kernel_rfl) (fun _ _ _ h => h) (Or.inl ⟨by rfl, ?hyb7⟩) (by assumption) ?restb7
        case hyb7 => (intro w hSw; (try dsimp only at hSw); go_simp; first | done | (with_reducible rfl))
        try simp only [Act.put, List.getElem_toArray, List.getElem_cons_zero, List.getElem_cons_succ, List.setIfInBounds_toArray, List.set_cons_zero, List.set_cons_succ]
        refine wpAnyH_take (i := 8) (v := ?vb8) rfl (by kernel_rfl) (by kernel_rfl) (by kernel_rfl) (fun _ _ _ h => h) (Or.inl ⟨by rfl, ?hyb8⟩) (by assumption) ?restb8
        case hyb8 => (intro w hSw; (try dsimp only at hSw); go_simp; first | done | (with_reducible rfl))
        try simp only [Act.put, List.getElem_toArray, List.getElem_cons_zero, List.getElem_cons_succ, List.setIfInBounds_toArray, List.set_cons_zero, List.set_cons_succ]
        exact tail _ _ vd _ HWI.out
    · go_simp
      refine hK.out _ _ (s3_of (HB3.out.drew.touch ((Touch.refl [] _).alloc _) (by simp))) (fun _ => ?_)
      clear hK K
      try simp only [Act.put, List.getElem_toArray, List.getElem_cons_zero, List.getElem_cons_succ, List.setIfInBounds_toArray, List.set_cons_zero, List.set_cons_succ]
      refine wpAnyH_ready (rs := [4]) (by kernel_rfl) (by simp) ?_
      refine AllReadyH.cons rfl (fun K hK => ?_) AllReadyH.nil
      go_simp
      refine (HDA.out (Wb.alloc (.cells #[.slice none 0 0, .slice none 0 0, .int .i64 0, .bool false] 53)).drew ((HBW.out.alloc HBW.out.size _).drew)).mono ?_
      rintro e Wd ⟨vd, rfl, how, hbd⟩
      have HV := hide how.bs
      have HVL := hide how.lt
      have HBD := hide (((HBW.out.alloc HBW.out.size _).drew).trans (hbd.mono ((HBW.out.alloc HBW.out.size _).drew).size))
      have HBS := hide (((HB3.out.touch ((Touch.refl [] _).alloc _) (by simp)).drew).touch (Touch.below hbd []) (by simp))
      have HZD := hide hbd
      clear how hbd
      refine hK.out _ _ (s3_of HBS.out) (fun _ => ?_)
      clear hK K
      try simp only [Act.put, List.getElem_toArray, List.getElem_cons_zero, List.getElem_cons_succ, List.setIfInBounds_toArray, List.set_cons_zero, List.set_cons_succ]
      refine wpAnyH_ready (rs := [5]) (by kernel_rfl) (by simp) ?_
      refine AllReadyH.cons rfl (fun K hK => ?_) AllReadyH.nil
      go_simp
      refine (HPU.out Wd [w.heap.size, w.heap.size + 1, w.heap.size + 2, Wb.heap.size] _ HBD.out (l4_le w HB3.out.size (by have := HZD.out.size; simpa [World.size_alloc] using this)) HV.out).mono ?_
      rintro e Wp ⟨vr, rfl, hrp, hbp⟩
      have HRP := hide hrp
      have HWI := hide (wri_put HRP.out HBS.out (((Blk.new Wb _ _).drew).step HZD.out) HBD.out HB3.out.size hbp)
      clear hrp hbp
      refine hK.out _ _ (s3_of HWI.out.2.1) (fun _ => ?_)
      clear hK K
      try simp only [Act.put, List.getElem_toArray, List.getElem_cons_zero, List.getElem_cons_succ, List.setIfInBounds_toArray, List.set_cons_zero, List.set_cons_succ]
      refine wpAnyH_take (i := 6) (v := ?vc6) rfl (by kernel_rfl) (by kernel_rfl) (by kernel_rfl) (fun _ _ _ h => h) (Or.inl ⟨by rfl, ?hyc6⟩) (by assumption) ?restc6
      case hyc6 => (intro w hSw; (try dsimp only at hSw); go_simp; first | done | (with_reducible rfl))
      try simp only [Act.put, List.getElem_toArray, List.getElem_cons_zero, List.getElem_cons_succ, List.setIfInBounds_toArray, List.set_cons_zero, List.set_cons_succ]
      refine wpAnyH_take (i := 7) (v := ?vc7) rfl (by kernel_rfl) (by kernel_rfl) (by kernel_rfl) (fun _ _ _ h => h) (Or.inl ⟨by rfl, ?hyc7⟩) (by assumption) ?restc7
      case hyc7 => (intro w hSw; (try dsimp only at hSw); go_simp; first | done | (with_reducible rfl))
      try simp only [Act.put, List.getElem_toArray, List.getElem_cons_zero, List.getElem_cons_succ, List.setIfInBounds_toArray, List.set_cons_zero, List.set_cons_succ]
      refine wpAnyH_take (i := 8) (v := ?vc8) rfl (by kernel_rfl) (by kernel_rfl) (by kernel_rfl) (fun _ _ _ h => h) (Or.inl ⟨by rfl, ?hyc8⟩) (by assumption) ?restc8
      case hyc8 => (intro w hSw; (try dsimp only at hSw); go_simp; first | done | (with_reducible rfl))
      try simp only [Act.put, List.getElem_toArray, List.getElem_cons_zero, List.getElem_cons_succ, List.setIfInBounds_toArray, List.set_cons_zero, List.set_cons_succ]
      exact tail _ _ vd _ HWI.out
  intro g vr vd0 Wt hI
  obtain ⟨hrf, hb3, hg, hbw, hlg⟩ := hI
  obtain ⟨A', n', c', B', m', b', vs', xs', rfl, hk'⟩ := hrf.form
  unfold rv
  have HK := hide hk'
  have HG := hide hg
  have HB4 := hide hb3
  have HBT := hide hbw
  have HGL := hide hlg
  clear hrf hb3 hg hbw hk' hS0 HB3 HBW HPU
  generalize hz1 : r1.fuse = z1
  generalize hfl1 : r1.failed = fl1
  have HZ1 := hide hz1
  have HFL1 := hide hfl1
  clear hz1 hfl1
  refine wpAnyH_ready (rs := [10]) (by kernel_rfl) (by simp) ?_
  refine AllReadyH.cons rfl (fun K hK => ?_) AllReadyH.nil
  refine step_store_blk rfl 53 (.tmp 9) (.tmp 29) rfl g 53 #[.slice none 0 0, .slice none 0 0, .int .i64 0, .bool false] #[.slice A' n' c', .slice B' m' b', .int .i64 z1, .bool fl1] rfl rfl HG.out rfl size_disk (one_rv _ _ _ _ _ _ _ _) ?_
  intro W3 hx3 ht3 hs3
  have HX3 := hide hx3
  have HB5 := hide (HB4.out.touch ht3 (by intro j hj; simp at hj; subst hj; have := HGL.out; omega))
  have HBW3 : Hid (Below w.heap.size w W3) := hide (Below.touch HBT.out ht3 (by simp; have := HGL.out; omega) HBT.out.size)
  have HK3 := hide (HK.out.touch (F' := [w.heap.size, w.heap.size + 1, w.heap.size + 2, g] ++ F) (ht3.mono (fun s hs => .inl (by simp at hs; subst hs; simp))) (fun j hj => .inl hj))
  have HGLT : Hid (g < W3.heap.size) := hide hx3.lt
  clear hx3 ht3 hs3
  refine hK.out _ _ (s3_of HB5.out) (fun _ => ?_)
  clear hK K
  try simp only [Act.put, List.getElem_toArray, List.getElem_cons_zero, List.getElem_cons_succ, List.setIfInBounds_toArray, List.set_cons_zero, List.set_cons_succ]
  refine wpAnyH_take (i := 11) (v := ?vt11) rfl (by kernel_rfl) (by kernel_rfl) (by kernel_rfl) (fun _ _ _ h => h) (Or.inl ⟨by rfl, ?hyt11⟩) (by assumption) ?restt11
  case hyt11 => (intro w hSw; (try dsimp only at hSw); go_simp; first | done | (with_reducible rfl))
  try simp only [Act.put, List.getElem_toArray, List.getElem_cons_zero, List.getElem_cons_succ, List.setIfInBounds_toArray, List.set_cons_zero, List.set_cons_succ]
  refine wpAnyH_done (by kernel_rfl) ?_ _
  go_wp2_with fail
  refine wp_region_held_drew (S := fun w' => (w'.cell? ⟨g, 0, none⟩ = some (.slice A' n' c') ∧ w'.cell? ⟨g, 1, none⟩ = some (.slice B' m' b') ∧ w'.cell? ⟨g, 2, none⟩ = some (.int .i64 z1) ∧ w'.cell? ⟨g, 3, none⟩ = some (.bool fl1)) ∧ (w'.cell? ⟨w.heap.size + 1, 0, none⟩ = some (.int .i64 x.kind) ∧ w'.cell? ⟨w.heap.size + 1, 1, none⟩ = some (.int .i64 x.page) ∧ w'.cell? ⟨w.heap.size + 1, 2, none⟩ = some (.int .i64 x.n) ∧ w'.cell? ⟨w.heap.size + 1, 3, none⟩ = some (.int .u8 x.fill) ∧ w'.cell? ⟨w.heap.size + 1, 4, none⟩ = some (.int .u8 x.short) ∧ w'.cell? ⟨w.heap.size + 1, 5, none⟩ = some (.slice As ms cs))) (by kernel_rfl) (s4_of HX3.out.drew HB5.out.drew) (fun hS0 => ?_)
  refine wpAnyH_take (i := 0) (v := ?vf0) rfl (by kernel_rfl) (by kernel_rfl) (by kernel_rfl) (fun _ _ _ h => h) (Or.inl ⟨by rfl, ?hyf0⟩) (by assumption) ?restf0
  case hyf0 => (intro w hSw; (try dsimp only at hSw); go_simp; first | done | (with_reducible rfl))
  try simp only [Act.put, List.getElem_toArray, List.getElem_cons_zero, List.getElem_cons_succ, List.setIfInBounds_toArray, List.set_cons_zero, List.set_cons_succ]
  refine wpAnyH_take (i := 1) (v := ?vf1) rfl (by kernel_rfl) (by kernel_rfl) (by kernel_rfl) (fun _ _ _ h => h) (Or.inl ⟨by rfl, ?hyf1⟩) (by assumption) ?restf1
  case hyf1 => (intro w hSw; (try dsimp only at hSw); go_simp; first | done | (with_reducible rfl))
  try simp only [Act.put, List.getElem_toArray, List.getElem_cons_zero, List.getElem_cons_succ, List.setIfInBounds_toArray, List.set_cons_zero, List.set_cons_succ]
  refine wpAnyH_take (i := 2) (v := ?vf2) rfl (by kernel_rfl) (by kernel_rfl) (by kernel_rfl) (fun _ _ _ h => h) (Or.inl ⟨by rfl, ?hyf2⟩) (by assumption) ?restf2
  case hyf2 => (intro w hSw; (try dsimp only at hSw); go_simp; first | done | (with_reducible rfl))
  try simp only [Act.put, List.getElem_toArray, List.getElem_cons_zero, List.getElem_cons_succ, List.setIfInBounds_toArray, List.set_cons_zero, List.set_cons_succ]
  refine wpAnyH_take (i := 3) (v := ?vf3) rfl (by kernel_rfl) (by kernel_rfl) (by kernel_rfl) (fun _ _ _ h => h) (Or.inl ⟨by rfl, ?hyf3⟩) (by assumption) ?restf3
  case hyf3 => (intro w hSw; (try dsimp only at hSw); go_simp; first | done | (with_reducible rfl))
  try simp only [Act.put, List.getElem_toArray, List.getElem_cons_zero, List.getElem_cons_succ, List.setIfInBounds_toArray, List.set_cons_zero, List.set_cons_succ]
  refine wpAnyH_take (i := 4) (v := ?vf4) rfl (by kernel_rfl) (by kernel_rfl) (by kernel_rfl) (fun _ _ _ h => h) (Or.inl ⟨by rfl, ?hyf4⟩) (by assumption) ?restf4
  case hyf4 => (intro w hSw; (try dsimp only at hSw); go_simp; first | done | (with_reducible rfl))
  try simp only [Act.put, List.getElem_toArray, List.getElem_cons_zero, List.getElem_cons_succ, List.setIfInBounds_toArray, List.set_cons_zero, List.set_cons_succ]
  refine wpAnyH_take (i := 5) (v := ?vf5) rfl (by kernel_rfl) (by kernel_rfl) (by kernel_rfl) (fun _ _ _ h => h) (Or.inl ⟨by rfl, ?hyf5⟩) (by assumption) ?restf5
  case hyf5 => (intro w hSw; (try dsimp only at hSw); go_simp; first | done | (with_reducible rfl))
  try simp only [Act.put, List.getElem_toArray, List.getElem_cons_zero, List.getElem_cons_succ, List.setIfInBounds_toArray, List.set_cons_zero, List.set_cons_succ]
  refine wpAnyH_take (i := 8) (v := ?vf6) rfl (by kernel_rfl) (by kernel_rfl) (by kernel_rfl) (fun _ _ _ h => h) (Or.inl ⟨by rfl, ?hyf6⟩) (by assumption) ?restf6
  case hyf6 => (intro w hSw; (try dsimp only at hSw); go_simp; first | done | (with_reducible rfl))
  try simp only [Act.put, List.getElem_toArray, List.getElem_cons_zero, List.getElem_cons_succ, List.setIfInBounds_toArray, List.set_cons_zero, List.set_cons_succ]
  refine wpAnyH_ready (rs := [6]) (by kernel_rfl) (by simp) ?_
  refine AllReadyH.cons rfl (fun K hK => ?_) AllReadyH.nil
  go_simp
  refine (HDA.out W3.drew HBW3.out.drew).mono ?_
  rintro e Wd ⟨vd, rfl, how, hbd⟩
  have HV := hide how
  have HBD := hide (HBW3.out.drew.trans (hbd.mono HBW3.out.size))
  have HX4 := hide (HX3.out.drew.step hbd)
  have HB6 := hide (HB5.out.drew.touch (Touch.below hbd []) (by simp))
  have HK4 := hide (HK3.out.touch (F' := [w.heap.size, w.heap.size + 1, w.heap.size + 2, g] ++ F) ((((Touch.refl ([w.heap.size, w.heap.size + 1, w.heap.size + 2, g] ++ F) W3).drew).trans (Touch.below hbd _))) (fun j hj => .inl hj))
  have HSD : Hid (W3.heap.size ≤ Wd.heap.size) := hide hbd.size
  clear how hbd
  refine hK.out _ _ (s4_of HX4.out HB6.out) (fun hS7 => ?_)
  clear hK K
  try simp only [Act.put, List.getElem_toArray, List.getElem_cons_zero, List.getElem_cons_succ, List.setIfInBounds_toArray, List.set_cons_zero, List.set_cons_succ]
  refine wpAnyH_ready (rs := [7]) (by kernel_rfl) (by simp) ?_
  refine AllReadyH.cons rfl (fun K hK => ?_) AllReadyH.nil
  go_simp
  refine (HWR.out Wd vd (HD0.out.step HBD.out) HV.out.bs (fun j hj => by have h1 := HV.out.lt j hj; have h3 : W3.heap.size ≤ j := h1.1; exact ⟨fun hm => by have := HLT.out j hm; have := HBW3.out.size; omega, h1.2⟩)).mono ?_
  rintro e Wx ⟨rfl, F', hd', ht', hF'⟩
  have HD' := hide hd'
  have HT' := hide ht'
  have HF' := hide hF'
  have HX5 := hide (HX4.out.touch ht' (fun hm => by have := HLT.out _ hm; have := HGL.out; omega))
  have HB7 := hide (HB6.out.touch ht' (fun j hj => .inl (HLT.out j hj)))
  have HK5 := hide (HK4.out.touch (F' := [w.heap.size, w.heap.size + 1, w.heap.size + 2, g] ++ F') (ht'.mono (fun s hs => .inl (List.mem_append.2 (.inr hs)))) (fun j hj => by rcases List.mem_append.1 hj with e | e; exact .inl (List.mem_append.2 (.inl e)); exact (hF' j e).imp_left (fun e => List.mem_append.2 (.inr e))))
  clear hd' ht' hF'
  refine hK.out _ _ (s4_of HX5.out HB7.out) (fun hS8 => ?_)
  clear hK K
  try simp only [Act.put, List.getElem_toArray, List.getElem_cons_zero, List.getElem_cons_succ, List.setIfInBounds_toArray, List.set_cons_zero, List.set_cons_succ]
  refine wpAnyH_take (i := 9) (v := ?vf9) rfl (by kernel_rfl) (by kernel_rfl) (by kernel_rfl) (fun _ _ _ h => h) (Or.inl ⟨by rfl, ?hyf9⟩) (by assumption) ?restf9
  case hyf9 => (intro w hSw; (try dsimp only at hSw); go_simp; first | done | (with_reducible rfl))
  try simp only [Act.put, List.getElem_toArray, List.getElem_cons_zero, List.getElem_cons_succ, List.setIfInBounds_toArray, List.set_cons_zero, List.set_cons_succ]
  refine wpAnyH_take (i := 10) (v := ?vf10) rfl (by kernel_rfl) (by kernel_rfl) (by kernel_rfl) (fun _ _ _ h => h) (Or.inl ⟨by rfl, ?hyf10⟩) (by assumption) ?restf10
  case hyf10 => (intro w hSw; (try dsimp only at hSw); go_simp; first | done | (with_reducible rfl))
  try simp only [Act.put, List.getElem_toArray, List.getElem_cons_zero, List.getElem_cons_succ, List.setIfInBounds_toArray, List.set_cons_zero, List.set_cons_succ]
  refine wpAnyH_ready (rs := [11]) (by kernel_rfl) (by simp) ?_
  refine AllReadyH.cons rfl (fun K hK => ?_) AllReadyH.nil
  refine step_store_blk rfl 53 (.tmp 7) (.tmp 32) rfl (w.heap.size + 2) 53 #[.slice none 0 0, .slice none 0 0, .int .i64 0, .bool false] #[.slice A' n' c', .slice B' m' b', .int .i64 z1, .bool fl1] rfl rfl HB7.out.res rfl size_disk (one_rv _ _ _ _ _ _ _ _) ?_
  intro W5 hx5 ht5 hs5
  have HX6 := hide hx5
  have HT5 := hide ht5
  have HX7 := hide (HX5.out.touch ht5 (by simp; have := HGL.out; omega))
  have HOP := hide (HB7.out.op.touch ht5 (by simp))
  clear hx5 ht5 hs5
  refine hK.out _ _ (s4_of2 HX7.out HOP.out) (fun hS11 => ?_)
  clear hK K
  try simp only [Act.put, List.getElem_toArray, List.getElem_cons_zero, List.getElem_cons_succ, List.setIfInBounds_toArray, List.set_cons_zero, List.set_cons_succ]
  refine wpAnyH_take (i := 12) (v := ?vf12) rfl (by kernel_rfl) (by kernel_rfl) (by kernel_rfl) (fun _ _ _ h => h) (Or.inl ⟨by rfl, ?hyf12⟩) (by assumption) ?restf12
  case hyf12 => (intro w hSw; (try dsimp only at hSw); go_simp; first | done | (with_reducible rfl))
  try simp only [Act.put, List.getElem_toArray, List.getElem_cons_zero, List.getElem_cons_succ, List.setIfInBounds_toArray, List.set_cons_zero, List.set_cons_succ]
  refine wpAnyH_done (by kernel_rfl) ?_ _
  go_wp2_with fail
  refine bodyPost_ret (results_tmp_row_tmp rfl _ _ (w.heap.size + 2) 53 #[.slice A' n' c', .slice B' m' b', .int .i64 z1, .bool fl1] (0, 0) _ (.pointer (some ⟨d, 0, none⟩)) (.bool true) ?h1 rfl ?h2 ?h3 Try.underlying53 rfl size_disk) rfl ?hp
  case h1 => first | rfl | simp
  case h2 => first | rfl | simp
  case h3 => exact HX6.out
  case hp =>
    have hlt := HLT.out
    have hf := HF'.out
    have hbs := HBD.out.size
    have hws : w.heap.size + 3 ≤ Wd.heap.size := Nat.le_trans HB5.out.size HSD.out
    have hk5 : Rk W5 F' r1 _ _ vs' xs' := HK5.out.touch (HT5.out.mono (fun s hs => .inl (by simp at hs; subst hs; simp))) (fun j hj => .inl (List.mem_append.2 (.inr hj)))
    refine ⟨d, F', _, rfl, HD'.out.touch HT5.out (fun j hj hm => ?_), ⟨_, _, vs', xs', by simp [rv, HZ1.out, HFL1.out], hk5⟩, ?_, fun j hj => (hf j hj).imp_right (fun e => by omega)⟩
    · simp at hm; subst hm; rcases hf _ hj with e | e
      · have := hlt _ e; omega
      · omega
    · exact ((Touch.below HBD.out F).trans HT'.out).next HT5.out (fun t ht => .inr (by simp at ht; omega))
end Go.Proofs.Ytlpnichgfhgdmaa
