/- The law's Step. -/
import Derived.Test.YtpadgkkeihhneaaGreatC41
namespace Go.Proofs.YtpadgkkeihhneaaGreat
set_option maxRecDepth 100000
set_option linter.unusedSimpArgs false
set_option linter.unusedVariables false
open List renaming getElem_toArray → qa, getElem_cons_zero → qb, getElem_cons_succ → qc, setIfInBounds_toArray → qd, set_cons_zero → qe, set_cons_succ → qf
open Go.ChangeShapes Go.WideShapes Go.ChangeAt Go.RowKit
/-- An operation of the law. -/
structure POp where
 kind : Int
 n : Int
 m : Int
 fill : Nat
 sv : Value
 sl : List Int
structure POp.Ok (w : World) (o : POp) : Prop where
 n : -9223372036854775808 ≤ o.n ∧ o.n ≤ 9223372036854775807
 m : -9223372036854775808 ≤ o.m ∧ o.m ≤ 9223372036854775807
 fill : o.fill ≤ 255
 surv : Is w o.sv o.sl
def POp.cells (o : POp) : List Value := [.int .i64 o.kind, .int .i64 o.n, .int .i64 o.m, .int .u8 o.fill, o.sv]
def pText (o : POp) : List UInt8 := jText ((max 0 o.n) % 400).toNat o.fill
theorem pText_len (o : POp) : (pText o).length ≤ 1000000 := by unfold pText; rw [jText_len]; omega
/-- What Step does to the disk and the journal. -/
def wStep (D : DS) (J : JS) (o : POp) : DS × JS :=
 if o.kind = 0 then ((jAppend D J (pText o)).1, (jAppend D J (pText o)).2.1) else if o.kind = 1 then ((jSave D J (pText o)).1, (jSave D J (pText o)).2.1)
 else if o.kind = 2 then ((reopen D).2.1, (reopen D).1) else if o.kind = 3 then (dFailAfter D o.m, J) else if o.kind = 4 then ((reopen (dCrash D o.sl)).2.1, (reopen (dCrash D o.sl)).1) else (D, J)
theorem wpList_box_own_n {P : Program} {w w0 : World} {T : List Nat} {L : List (Nat × TypeId × List Value)} {ops : Array Oper} {rest : List Oper} {op : Oper} {a : Act} {Q : Exit → Act → World → Prop} (HO : Own w0 T L w) (hgd : op.guard = none) (t : TypeId) (x : Operand) (ho : op.op = .box t x) (cs : List Value) (hx : a.eval x = .agg cs.toArray)
 (h : ∀ w' b, b = w.heap.size → Own w0 T (L ++ [(b, t, cs)]) w' → Below w.heap.size w w' → wpList P ops Q rest (a.put op.dst (.pointer (some ⟨b, 0, none⟩))) w') : wpList P ops Q (op :: rest) a w :=
 wpList_box_blk hgd t x ho cs.toArray hx fun w' h1 h2 _ => h w' _ rfl (HO.push h1 h2) h2
theorem is_lt {w : World} {v : Value} {l : List Int} (h : Is w v l) (hne : l ≠ []) : ∀ j, v.ownBlock = some j → j < w.heap.size := by
 obtain ⟨A, c, rfl, h1, h2, h3, h4⟩ := h
 obtain ⟨g, o, rfl, hg, hr⟩ := h4 (List.length_pos_iff.2 hne)
 intro j hj
 obtain rfl : g = j := by injection hj
 exact hg
theorem is_one {w : World} {v : Value} {l : List Int} (h : Is w v l) : v.oneCell' = true := by
 obtain ⟨A, c, rfl, _⟩ := h; rfl
theorem Zs.turnG {P P' : World → List Nat → Prop} {w0 W0 W : World} {X M : List Nat} {v : Value} {D : DS} {J : JS} (h : Zs P w0 W0 X M W v D J) {R : Ending → Prop} {f : FuncId} {args : Array Value} (hc : ∀ G, P W G → (∀ j ∈ G, w0.heap.size ≤ j) → Calls Tryz.prog f args W fun e W' => R e ∧ Turns P' W G W') :
 Calls Tryz.prog f args W fun e W' => R e ∧ Zs P' w0 W0 X M W' v D J ∧ Stays w0 M W W' := by
 have h' := h
 obtain ⟨G, h1, h2, h3, h4, h5, h6, h7⟩ := h
 exact Zs.turn (P := fun W' G' => W' = W ∧ G' = G ∧ P W G) ⟨G, ⟨rfl, rfl, h1⟩, h2, h3, h4, h5, h6, h7⟩ (fun G' hG' => by
  obtain ⟨_, rfl, h1'⟩ := hG'
  exact hc G' h1' (fun j hj => (h2 j hj).1))
theorem turns_jdoesF {g d : Nat} {F G : List Nat} {D D' : DS} {J : JS} {q v : Value} {W W' : World} {e : Ending} (h : Jn W g d G D J) (h1 : Jr W g d F D J q) (h2 : ∀ j ∈ F, j ∈ G) (h3 : ∀ j, q.ownBlock = some j → j ∈ G) (h4 : g ∈ G) (k : Does W d F D' v e W') : e = .returned v ∧ Turns (fun W G => Jn W g d G D' J) W G W' := by
 obtain ⟨he, F', hd, ht, hF⟩ := k
 have hlt := hd.lt
 have hrec := h1.recs.touch ht (fun j hj hm => (h1.rF j hj).1 hm)
 have hjr : Jr W' g d F' D' J q := ⟨h1.blk.touch ht (fun hm => h1.gF hm), hrec, fun hm => by
  rcases hF g hm with e | e
  ·exact h1.gF e
  ·have := h1.blk.lt; omega, fun j hj => ⟨fun hm => by
   rcases hF j hm with e | e
   ·exact (h1.rF j hj).1 e
   ·have := h1.recs.lt j hj; omega, (h1.rF j hj).2⟩, hlt, hd⟩
 obtain ⟨G', k1, k2, k3⟩ := hjr.jn (G := G) h4 (fun j hj => (hF j hj).imp (h2 j) id) (fun j hj => .inl (h3 j hj)) (ht.mono (fun s hs => .inl (h2 s hs)))
 exact ⟨he, G', k1, k2, k3⟩
theorem jn_call {g d : Nat} {G : List Nat} {D D' : DS} {J : JS} {W : World} {f : FuncId} {args : Array Value} {v : Value} (h : Jn W g d G D J) (k : ∀ F, Disk W d F D → Calls Tryz.prog f args W (Does W d F D' v)) : Calls Tryz.prog f args W fun e w' => e = .returned v ∧ Turns (fun W G => Jn W g d G D' J) W G w' := by
 obtain ⟨F, q, h1, h2, h3, h4, h5⟩ := h
 exact (k F h1.disk).mono fun e w' hd => turns_jdoesF ⟨F, q, h1, h2, h3, h4, h5⟩ h1 h2 h3 h4 hd
theorem jn_callG {g d : Nat} {G : List Nat} {D D' : DS} {J : JS} {W : World} {f : FuncId} {args : Array Value} {v : Value} (h : Jn W g d G D J) (k : ∀ F, Disk W d F D → (∀ j ∈ F, j ∈ G) → Calls Tryz.prog f args W (Does W d F D' v)) : Calls Tryz.prog f args W fun e w' => e = .returned v ∧ Turns (fun W G => Jn W g d G D' J) W G w' := by
 obtain ⟨F, q, h1, h2, h3, h4, h5⟩ := h
 exact (k F h1.disk h2).mono fun e w' hd => turns_jdoesF ⟨F, q, h1, h2, h3, h4, h5⟩ h1 h2 h3 h4 hd
set_option maxHeartbeats 16000000 in
theorem wstep_c (w0 W0 : World) (X : List Nat) (x d g : Nat) (D : DS) (J : JS) (o : POp) (W : World) (h : Ww w0 W0 X x d g W D J) (hs : Sound D) (hj : JOk D J) (ho : o.Ok w0) : Calls Tryz.prog 23 #[.pointer (some ⟨x, 0, none⟩), .agg o.cells.toArray] W fun e W' => e = .returned (.bool true) ∧ ∃ g', Ww w0 W0 X x d g' W' (wStep D J o).1 (wStep D J o).2 := by
 obtain ⟨A, n, c, B, m, bb, Ar, nr, cr, hO, hZ⟩ := h
 have HFA : Hid (∀ (G : List Nat) (V : World), Jn V g d G D J → Calls Tryz.prog 29 #[.pointer (some ⟨d, 0, none⟩), .int .i64 o.m] V fun e w' => e = .returned (.tuple #[]) ∧ Turns (fun W G => Jn W g d G (dFailAfter D o.m) J) V G w') := hide (fun G V hG => jn_call hG fun F hF => failAfter_c d F D o.m ho.m.2 V hF)
 have HFB : Hid (∀ (F : List Nat) (V : World), Rf V F (.agg #[.slice A n c, .slice B m bb, .int .i64 D.fuse, .bool D.failed]) D → Calls Tryz.prog 30 #[.agg #[.slice A n c, .slice B m bb, .int .i64 D.fuse, .bool D.failed], .int .i64 o.m] V (GivesR V F (dFailAfter D o.m))) := hide (fun F V hr => failAfter_r F _ D o.m ho.m.2 V hr)
 have HCA : Hid (∀ (G : List Nat) (V : World), Below w0.heap.size w0 V → (∀ j ∈ G, w0.heap.size ≤ j) → Jn V g d G D J → Calls Tryz.prog 31 #[.pointer (some ⟨d, 0, none⟩), o.sv] V fun e w' => e = .returned (.tuple #[]) ∧ Turns (fun W G => Jn W g d G (dCrash D o.sl) J) V G w') := hide (fun G V hV hlo hG => jn_callG hG fun F hF hFG => crash_cR d F D o.sv o.sl V hF (ho.surv.step hV) (fun hne j hj hm => by
  have h1 := is_lt ho.surv hne j hj
  have h2 := hlo j (hFG j hm)
  omega))
 have HCB : Hid (∀ (F : List Nat) (V : World), Below w0.heap.size w0 V → Rf V F (.agg #[.slice A n c, .slice B m bb, .int .i64 D.fuse, .bool D.failed]) D → (∀ j ∈ F, j < V.heap.size) → Calls Tryz.prog 63 #[.agg #[.slice A n c, .slice B m bb, .int .i64 D.fuse, .bool D.failed], o.sv] V (GivesR V F (dCrash D o.sl))) := hide (fun F V hV hr hF => crash_r F _ D o.sv o.sl V hr (ho.surv.step hV) hF (by have := hs.few; omega) (by have := hs.top; omega))
 have HTX : Hid (∀ V : World, Calls Tryz.prog 15 #[.agg o.cells.toArray] V fun e w' => e = .returned (.string ⟨(pText o).toArray⟩) ∧ Below V.heap.size V w') := hide (fun V => text_c o.kind o.n o.m o.fill ho.fill ho.n o.sv (is_one ho.surv) V)
 obtain ⟨As, ms, cs, hsv, _, _, _⟩ := ho.surv.formN
 unfold POp.cells at HTX ⊢
 rw [hsv] at HTX HCA HCB ⊢
 unfold wcs rjc at hO
 unfold rjc at hZ
 generalize D.fuse = fz at hO hZ HFB HCB
 generalize D.failed = fl at hO hZ HFB HCB
 generalize (J.turn : Int) = zt at hO hZ
 generalize J.state = st at hO hZ
 generalize (J.used : Int) = zu at hO hZ
 generalize J.broken = br at hO hZ
 have HO := hide hO
 have HZ := hide hZ
 have HS := hide hs
 have HJ := hide hj
 clear hO hZ hs hj ho hsv
 obtain ⟨ok, hok⟩ : ∃ z, o.kind = z := ⟨_, rfl⟩
 obtain ⟨on, hon⟩ : ∃ z, o.n = z := ⟨_, rfl⟩
 obtain ⟨om, hom⟩ : ∃ z, o.m = z := ⟨_, rfl⟩
 obtain ⟨of, hof⟩ : ∃ z : Int, (o.fill : Int) = z := ⟨_, rfl⟩
 have HKZ := hide hok
 rw [hok, hon, hom, hof] at HTX
 rw [hom] at HFA HFB
 rw [hok, hon, hom, hof]
 have HOM := hide hom
 clear hok hon hom hof
 by_cases hk0 : ok = 0
 ·have HKK : Hid (o.kind = 0) := hide (by rw [HKZ.out, hk0])
  have HWS : Hid (wStep D J o = ((jAppend D J (pText o)).1, (jAppend D J (pText o)).2.1)) := hide (by unfold wStep; rw [if_pos HKK.out])
  have q0 : (ok == 0) = true := by simpa using (by omega : ok = 0)
  clear hk0
  go_enter Tryz.func23, Tryz.ntmps23
  go_wp2_with (first
   | ((with_reducible refine at_box 42 (.tmp 1) ?_); refine wpList_box_own_n HO.out rfl 42 (.tmp 1) rfl ([.int .i64 ok, .int .i64 on, .int .i64 om, .int .u8 of, .slice As ms cs]) rfl ?_; intro WA b3 hb hO hbel; replace HZ := hide (HZ.out.push (keeps_jn g d D J) hb hbel (hO.blk 1 rfl).lt); replace HO := hide hO; clear hO hb hbel; have kx := HO.out.cells 0 rfl; have k3 := HO.out.cells 1 rfl))
  refine wp_region_held_drew (S := fun W => (∀ j, W.cell? ⟨x, j, none⟩ = ([.pointer (some ⟨d, 0, none⟩), .pointer (some ⟨g, 0, none⟩), .slice A n c, .slice B m bb, .int .i64 fz, .bool fl, .int .i64 zt, sv st, .slice Ar nr cr, .int .i64 zu, .bool br] : List Value)[j]?) ∧ (∀ j, W.cell? ⟨b3, j, none⟩ = ([.int .i64 ok, .int .i64 on, .int .i64 om, .int .u8 of, .slice As ms cs] : List Value)[j]?)) (by kernel_rfl) (⟨HO.out.drew.cells 0 rfl, HO.out.drew.cells 1 rfl⟩) (fun hS0 => ?_)
  replace HO := hide HO.out.drew
  replace HZ := hide (HZ.out.step (keeps_jn g d D J) (below_drew _))
  refine tk 0 ?_
  refine tk 1 ?_
  refine tk 2 ?_
  refine ty 3 (.agg ([.slice A n c, .slice B m bb, .int .i64 fz, .bool fl, .int .i64 zt, sv st, .slice Ar nr cr, .int .i64 zu, .bool br] : List Value).toArray) rfl (yieldsIf_load rfl 51 (.tmp 16) rfl x 2 9 55 ([.pointer (some ⟨d, 0, none⟩), .pointer (some ⟨g, 0, none⟩), .slice A n c, .slice B m bb, .int .i64 fz, .bool fl, .int .i64 zt, sv st, .slice Ar nr cr, .int .i64 zu, .bool br]) ([.slice A n c, .slice B m bb, .int .i64 fz, .bool fl, .int .i64 zt, sv st, .slice Ar nr cr, .int .i64 zu, .bool br]) _ (fun w hw => hw.1) rfl rfl Tryz.underlying51 rfl (by kernel_rfl)) ?_
  refine ty 4 (.agg ([.int .i64 ok, .int .i64 on, .int .i64 om, .int .u8 of, .slice As ms cs] : List Value).toArray) rfl (yieldsIf_load rfl 42 (.tmp 3) rfl b3 0 5 42 ([.int .i64 ok, .int .i64 on, .int .i64 om, .int .u8 of, .slice As ms cs]) ([.int .i64 ok, .int .i64 on, .int .i64 om, .int .u8 of, .slice As ms cs]) _ (fun w hw => hw.2) (take_all rfl) rfl Tryz.underlying42 rfl (by kernel_rfl)) ?_
  refine' rt_2 (I := fun (b5 : Nat) (v6 : Value) W => (Own w0 [] [(x, 55, [.pointer (some ⟨d, 0, none⟩), .pointer (some ⟨g, 0, none⟩), .slice A n c, .slice B m bb, .int .i64 fz, .bool fl, .int .i64 zt, sv st, .slice Ar nr cr, .int .i64 zu, .bool br]), (b3, 42, [.int .i64 ok, .int .i64 on, .int .i64 om, .int .u8 of, .slice As ms cs]), (b5, 51, zjr)] W) ∧ (Zs (fun W G => Jn W g d G D J) w0 W0 X [x, b3, b5] W v6 (jAppend D J (pText o)).1 (jAppend D J (pText o)).2.1)) (fun k0Tatu => ?_) ?_
  rotate_left
  refine' rt_1 (I := fun (b5 : Nat) W => (Own w0 [] [(x, 55, [.pointer (some ⟨d, 0, none⟩), .pointer (some ⟨g, 0, none⟩), .slice A n c, .slice B m bb, .int .i64 fz, .bool fl, .int .i64 zt, sv st, .slice Ar nr cr, .int .i64 zu, .bool br]), (b3, 42, [.int .i64 ok, .int .i64 on, .int .i64 om, .int .u8 of, .slice As ms cs]), (b5, 51, zjr)] W) ∧ (Zs (fun W G => Jn W g d G D J) w0 W0 X [x, b3, b5] W (.agg ([.slice A n c, .slice B m bb, .int .i64 fz, .bool fl, .int .i64 zt, sv st, .slice Ar nr cr, .int .i64 zu, .bool br] : List Value).toArray) D J)) (fun k0Tat => ?_) ?_
  rotate_left
  ·refine wpAnyH_ready (rs := [5, 10]) (by kernel_rfl) (by simp) ?_
   refine AllReadyH.cons rfl (fun K hK => ?_) (AllReadyH.cons rfl (fun K hK => ?_) (AllReadyH.nil))
   ·go_simp
    refine (HTX.out _).mono ?_
    rintro e w5 ⟨rfl, hb5⟩
    replace HO := hide (HO.out.step hb5)
    replace HZ := hide (HZ.out.step (keeps_jn g d D J) hb5)
    clear hb5
    refine hK.out _ _ (⟨HO.out.cells 0 rfl, HO.out.cells 1 rfl⟩) (fun _ => ?_)
    clear hK K
    try simp only [Act.put, qa, qb, qc, qd, qe, qf]
    refine wpAnyH_ready (rs := [6, 10]) (by kernel_rfl) (by simp) ?_
    refine AllReadyH.cons rfl (fun K hK => ?_) (AllReadyH.cons rfl (fun K hK => ?_) (AllReadyH.nil))
    ·go_simp
     refine (Zs.ref (keeps_jn g d D J) HZ.out (fun F hr hF => rappend_c F _ D J (pText o) _ rfl (pText_len o) _ hr hF HS.out.sz (by have := HS.out.few; omega) (by have := HS.out.top; omega) HJ.out)).mono ?_
     rintro e w5 ⟨v6, rfl, hb5, hz⟩
     replace HO := hide (HO.out.step hb5)
     replace HZ := hide hz
     clear hb5 hz
     refine hK.out _ _ (⟨HO.out.cells 0 rfl, HO.out.cells 1 rfl⟩) (fun _ => ?_)
     clear hK K
     try simp only [Act.put, qa, qb, qc, qd, qe, qf]
     refine tk 7 ?_
     refine tk 8 ?_
     refine tk 9 ?_
     refine tr1 10 fun K hK => ?_
     refine step_alloc_own_n HO.out rfl 51 rfl zjr rjr_info ?_
     intro WA b5 hb hO hbel
     replace HZ := hide (HZ.out.push (keeps_jn g d D J) hb hbel (hO.blk 2 rfl).lt)
     replace HO := hide hO
     clear hO hbel hb
     refine hK.out _ _ (⟨HO.out.cells 0 rfl, HO.out.cells 1 rfl⟩) (fun _ => ?_)
     clear hK K
     try simp only [Act.put, qa, qb, qc, qd, qe, qf]
     exact k0Tatu b5 v6 _ ⟨HO.out, HZ.out⟩
    ·refine step_alloc_own_n HO.out rfl 51 rfl zjr rjr_info ?_
     intro WA b5 hb hO hbel
     replace HZ := hide (HZ.out.push (keeps_jn g d D J) hb hbel (hO.blk 2 rfl).lt)
     replace HO := hide hO
     clear hO hbel hb
     refine hK.out _ _ (⟨HO.out.cells 0 rfl, HO.out.cells 1 rfl⟩) (fun _ => ?_)
     clear hK K
     try simp only [Act.put, qa, qb, qc, qd, qe, qf]
     exact k0Tat b5 _ ⟨HO.out, HZ.out⟩
   ·refine step_alloc_own_n HO.out rfl 51 rfl zjr rjr_info ?_
    intro WA b5 hb hO hbel
    replace HZ := hide (HZ.out.push (keeps_jn g d D J) hb hbel (hO.blk 2 rfl).lt)
    replace HO := hide hO
    clear hO hbel hb
    refine hK.out _ _ (⟨HO.out.cells 0 rfl, HO.out.cells 1 rfl⟩) (fun _ => ?_)
    clear hK K
    try simp only [Act.put, qa, qb, qc, qd, qe, qf]
    refine tr1 5 fun K hK => ?_
    go_simp
    refine (HTX.out _).mono ?_
    rintro e w5 ⟨rfl, hb5⟩
    replace HO := hide (HO.out.step hb5)
    replace HZ := hide (HZ.out.step (keeps_jn g d D J) hb5)
    clear hb5
    refine hK.out _ _ (⟨HO.out.cells 0 rfl, HO.out.cells 1 rfl⟩) (fun _ => ?_)
    clear hK K
    try simp only [Act.put, qa, qb, qc, qd, qe, qf]
    exact k0Tat b5 _ ⟨HO.out, HZ.out⟩
  ·intro b5 WT hI
   obtain ⟨h0, h1⟩ := hI
   have HO := hide h0
   have HZ := hide h1
   clear h0 h1
   have hSS : (fun W => (∀ j, W.cell? ⟨x, j, none⟩ = ([.pointer (some ⟨d, 0, none⟩), .pointer (some ⟨g, 0, none⟩), .slice A n c, .slice B m bb, .int .i64 fz, .bool fl, .int .i64 zt, sv st, .slice Ar nr cr, .int .i64 zu, .bool br] : List Value)[j]?) ∧ (∀ j, W.cell? ⟨b3, j, none⟩ = ([.int .i64 ok, .int .i64 on, .int .i64 om, .int .u8 of, .slice As ms cs] : List Value)[j]?)) WT := ⟨HO.out.cells 0 rfl, HO.out.cells 1 rfl⟩
   refine tr1 6 fun K hK => ?_
   go_simp
   refine (Zs.ref (keeps_jn g d D J) HZ.out (fun F hr hF => rappend_c F _ D J (pText o) _ rfl (pText_len o) _ hr hF HS.out.sz (by have := HS.out.few; omega) (by have := HS.out.top; omega) HJ.out)).mono ?_
   rintro e w5 ⟨v6, rfl, hb5, hz⟩
   replace HO := hide (HO.out.step hb5)
   replace HZ := hide hz
   clear hb5 hz
   refine hK.out _ _ (⟨HO.out.cells 0 rfl, HO.out.cells 1 rfl⟩) (fun _ => ?_)
   clear hK K
   try simp only [Act.put, qa, qb, qc, qd, qe, qf]
   refine tk 7 ?_
   refine tk 8 ?_
   refine tk 9 ?_
   exact k0Tatu b5 v6 _ ⟨HO.out, HZ.out⟩
  ·intro b5 v6 WT hI
   obtain ⟨h0, h1⟩ := hI
   have HO := hide h0
   have HZ := hide h1
   clear h0 h1
   have hSS : (fun W => (∀ j, W.cell? ⟨x, j, none⟩ = ([.pointer (some ⟨d, 0, none⟩), .pointer (some ⟨g, 0, none⟩), .slice A n c, .slice B m bb, .int .i64 fz, .bool fl, .int .i64 zt, sv st, .slice Ar nr cr, .int .i64 zu, .bool br] : List Value)[j]?) ∧ (∀ j, W.cell? ⟨b3, j, none⟩ = ([.int .i64 ok, .int .i64 on, .int .i64 om, .int .u8 of, .slice As ms cs] : List Value)[j]?)) WT := ⟨HO.out.cells 0 rfl, HO.out.cells 1 rfl⟩
   refine tr1 11 fun K hK => ?_
   obtain ⟨A5, n5, c5, B5, m5, bb5, q5, rfl, Ar5, nr5, cr5, rfl, _⟩ := HZ.out.form
   unfold rjc at HZ ⊢
   generalize hz1 : (jAppend D J (pText o)).1.fuse = fz5 at HZ ⊢
   generalize hz2 : (jAppend D J (pText o)).1.failed = fl5 at HZ ⊢
   generalize hz3 : ((jAppend D J (pText o)).2.1.turn : Int) = zt5 at HZ ⊢
   generalize hz4 : (jAppend D J (pText o)).2.1.state = st5 at HZ ⊢
   generalize hz5 : ((jAppend D J (pText o)).2.1.used : Int) = zu5 at HZ ⊢
   generalize hz6 : (jAppend D J (pText o)).2.1.broken = br5 at HZ ⊢
   clear hz1 hz2 hz3 hz4 hz5 hz6
   refine step_store_own_t HO.out rfl 51 (.tmp 5) (.tmp 21) rfl 2 _ 0 _ _ ([.slice A5 n5 c5, .slice B5 m5 bb5, .int .i64 fz5, .bool fl5, .int .i64 zt5, sv st5, .slice Ar5 nr5 cr5, .int .i64 zu5, .bool br5]) ([.slice A5 n5 c5, .slice B5 m5 bb5, .int .i64 fz5, .bool fl5, .int .i64 zt5, sv st5, .slice Ar5 nr5 cr5, .int .i64 zu5, .bool br5]) rfl (.agg ([.slice A5 n5 c5, .slice B5 m5 bb5, .int .i64 fz5, .bool fl5, .int .i64 zt5, sv st5, .slice Ar5 nr5 cr5, .int .i64 zu5, .bool br5] : List Value).toArray) rfl rfl (fits_agg _) (by simp [zjr]) rfl (by kernel_rfl) rfl ?_
   intro WA hO _ ht
   replace HZ := hide (HZ.out.put (keeps_jn g d D J) (by simp) ht)
   replace HO := hide hO
   clear hO ht
   refine hK.out _ _ (⟨HO.out.cells 0 rfl, HO.out.cells 1 rfl⟩) (fun _ => ?_)
   clear hK K
   try simp only [Act.put, qa, qb, qc, qd, qe, qf]
   refine tk 12 ?_
   refine wpAnyH_done (by kernel_rfl) ?_ _
   go_wp2_with (first
    | ((with_reducible refine at_load 51 (.tmp 5) ?_); refine wpList_load_own HO.out rfl 51 (.tmp 5) rfl 2 _ 0 9 _ _ ([.slice A5 n5 c5, .slice B5 m5 bb5, .int .i64 fz5, .bool fl5, .int .i64 zt5, sv st5, .slice Ar5 nr5 cr5, .int .i64 zu5, .bool br5]) _ rfl rfl rfl Tryz.underlying51 rfl (by kernel_rfl) ?_)
    | ((with_reducible refine at_store 51 (.tmp 26) ?_); refine wpList_store_own_t HO.out rfl 51 (.tmp 26) (.tmp 24) rfl 0 _ 2 _ _ ([.slice A5 n5 c5, .slice B5 m5 bb5, .int .i64 fz5, .bool fl5, .int .i64 zt5, sv st5, .slice Ar5 nr5 cr5, .int .i64 zu5, .bool br5]) ([.pointer (some ⟨d, 0, none⟩), .pointer (some ⟨g, 0, none⟩), .slice A5 n5 c5, .slice B5 m5 bb5, .int .i64 fz5, .bool fl5, .int .i64 zt5, sv st5, .slice Ar5 nr5 cr5, .int .i64 zu5, .bool br5]) rfl (.agg ([.slice A5 n5 c5, .slice B5 m5 bb5, .int .i64 fz5, .bool fl5, .int .i64 zt5, sv st5, .slice Ar5 nr5 cr5, .int .i64 zu5, .bool br5] : List Value).toArray) rfl rfl (fits_agg _) (by simp [zjr]) rfl (by kernel_rfl) rfl ?_; intro WA hO _ ht; replace HZ := hide (HZ.out.put (keeps_jn g d D J) (by simp) ht); replace HO := hide hO; clear hO ht; refine Hid.out ?_))
   refine hide ?_
   replace HO := hide (HO.out.sub (M := [(x, 55, [.pointer (some ⟨d, 0, none⟩), .pointer (some ⟨g, 0, none⟩), .slice A5 n5 c5, .slice B5 m5 bb5, .int .i64 fz5, .bool fl5, .int .i64 zt5, sv st5, .slice Ar5 nr5 cr5, .int .i64 zu5, .bool br5]), (b3, 42, [.int .i64 ok, .int .i64 on, .int .i64 om, .int .u8 of, .slice As ms cs])]) (by simp))
   replace HZ := hide (Zs.drop (M := [x, b3]) (N' := [b5]) HZ.out)
   go_wp2_with fail
   refine wp_region_held_drew (S := fun W => (∀ j, W.cell? ⟨x, j, none⟩ = ([.pointer (some ⟨d, 0, none⟩), .pointer (some ⟨g, 0, none⟩), .slice A5 n5 c5, .slice B5 m5 bb5, .int .i64 fz5, .bool fl5, .int .i64 zt5, sv st5, .slice Ar5 nr5 cr5, .int .i64 zu5, .bool br5] : List Value)[j]?) ∧ (∀ j, W.cell? ⟨b3, j, none⟩ = ([.int .i64 ok, .int .i64 on, .int .i64 om, .int .u8 of, .slice As ms cs] : List Value)[j]?)) (by kernel_rfl) (⟨HO.out.drew.cells 0 rfl, HO.out.drew.cells 1 rfl⟩) (fun hS0 => ?_)
   replace HO := hide HO.out.drew
   replace HZ := hide (HZ.out.step (keeps_jn g d D J) (below_drew _))
   refine tk 0 ?_
   refine tk 1 ?_
   refine tk 2 ?_
   refine tk 3 ?_
   refine ty 4 (.agg ([.int .i64 ok, .int .i64 on, .int .i64 om, .int .u8 of, .slice As ms cs] : List Value).toArray) rfl (yieldsIf_load rfl 42 (.tmp 3) rfl b3 0 5 42 ([.int .i64 ok, .int .i64 on, .int .i64 om, .int .u8 of, .slice As ms cs]) ([.int .i64 ok, .int .i64 on, .int .i64 om, .int .u8 of, .slice As ms cs]) _ (fun w hw => hw.2) (take_all rfl) rfl Tryz.underlying42 rfl (by kernel_rfl)) ?_
   refine tk 7 ?_
   refine tr1 5 fun K hK => ?_
   go_simp
   refine (HTX.out _).mono ?_
   rintro e w5 ⟨rfl, hb5⟩
   replace HO := hide (HO.out.step hb5)
   replace HZ := hide (HZ.out.step (keeps_jn g d D J) hb5)
   clear hb5
   refine hK.out _ _ (⟨HO.out.cells 0 rfl, HO.out.cells 1 rfl⟩) (fun hS6 => ?_)
   clear hK K
   try simp only [Act.put, qa, qb, qc, qd, qe, qf]
   refine tr1 6 fun K hK => ?_
   go_simp
   refine (Zs.turn (P' := fun W G => Jn W g d G (jAppend D J (pText o)).1 (jAppend D J (pText o)).2.1) (R := fun e => e = .returned (.int .i64 (jAppend D J (pText o)).2.2)) HZ.out (fun G hG => (jappend_c g d G D J (pText o) _ rfl (pText_len o) _ hG HS.out.sz (by have := HS.out.few; omega) HJ.out).mono fun e w' h => turns_jdoes h)).mono ?_
   rintro e w6 ⟨rfl, hz, hst⟩
   replace HO := hide (hst [(x, 55, [.pointer (some ⟨d, 0, none⟩), .pointer (some ⟨g, 0, none⟩), .slice A5 n5 c5, .slice B5 m5 bb5, .int .i64 fz5, .bool fl5, .int .i64 zt5, sv st5, .slice Ar5 nr5 cr5, .int .i64 zu5, .bool br5]), (b3, 42, [.int .i64 ok, .int .i64 on, .int .i64 om, .int .u8 of, .slice As ms cs])] (by simp) HO.out)
   replace HZ := hide hz
   clear hst hz
   refine hK.out _ _ (⟨HO.out.cells 0 rfl, HO.out.cells 1 rfl⟩) (fun hS7 => ?_)
   clear hK K
   try simp only [Act.put, qa, qb, qc, qd, qe, qf]
   refine tk 8 ?_
   refine tk 9 ?_
   refine wpAnyH_done (by kernel_rfl) ?_ _
   clear hS0
   go_wp2_with fail
   go_ret
   exact ⟨rfl, g, by rw [HWS.out]; exact Ww.of (HO.out.sub (M := [(x, 55, [.pointer (some ⟨d, 0, none⟩), .pointer (some ⟨g, 0, none⟩), .slice A5 n5 c5, .slice B5 m5 bb5, .int .i64 fz5, .bool fl5, .int .i64 zt5, sv st5, .slice Ar5 nr5 cr5, .int .i64 zu5, .bool br5])]) (by simp)) (Zs.drop (M := [x]) (N' := [b3]) HZ.out)⟩
 by_cases hk1 : ok = 1
 ·have HKK : Hid (o.kind = 1) := hide (by rw [HKZ.out, hk1])
  have HWS : Hid (wStep D J o = ((jSave D J (pText o)).1, (jSave D J (pText o)).2.1)) := hide (by unfold wStep; rw [if_neg (by have := HKK.out; omega), if_pos HKK.out])
  have q0 : (ok == 0) = false := by simpa using (by omega : ok ≠ 0)
  have q1 : (ok == 1) = true := by simpa using (by omega : ok = 1)
  clear hk0 hk1
  go_enter Tryz.func23, Tryz.ntmps23
  go_wp2_with (first
   | ((with_reducible refine at_box 42 (.tmp 1) ?_); refine wpList_box_own_n HO.out rfl 42 (.tmp 1) rfl ([.int .i64 ok, .int .i64 on, .int .i64 om, .int .u8 of, .slice As ms cs]) rfl ?_; intro WA b3 hb hO hbel; replace HZ := hide (HZ.out.push (keeps_jn g d D J) hb hbel (hO.blk 1 rfl).lt); replace HO := hide hO; clear hO hb hbel; have kx := HO.out.cells 0 rfl; have k3 := HO.out.cells 1 rfl))
  refine wp_region_held_drew (S := fun W => (∀ j, W.cell? ⟨x, j, none⟩ = ([.pointer (some ⟨d, 0, none⟩), .pointer (some ⟨g, 0, none⟩), .slice A n c, .slice B m bb, .int .i64 fz, .bool fl, .int .i64 zt, sv st, .slice Ar nr cr, .int .i64 zu, .bool br] : List Value)[j]?) ∧ (∀ j, W.cell? ⟨b3, j, none⟩ = ([.int .i64 ok, .int .i64 on, .int .i64 om, .int .u8 of, .slice As ms cs] : List Value)[j]?)) (by kernel_rfl) (⟨HO.out.drew.cells 0 rfl, HO.out.drew.cells 1 rfl⟩) (fun hS0 => ?_)
  replace HO := hide HO.out.drew
  replace HZ := hide (HZ.out.step (keeps_jn g d D J) (below_drew _))
  refine tk 0 ?_
  refine tk 1 ?_
  refine tk 2 ?_
  refine ty 3 (.agg ([.slice A n c, .slice B m bb, .int .i64 fz, .bool fl, .int .i64 zt, sv st, .slice Ar nr cr, .int .i64 zu, .bool br] : List Value).toArray) rfl (yieldsIf_load rfl 51 (.tmp 41) rfl x 2 9 55 ([.pointer (some ⟨d, 0, none⟩), .pointer (some ⟨g, 0, none⟩), .slice A n c, .slice B m bb, .int .i64 fz, .bool fl, .int .i64 zt, sv st, .slice Ar nr cr, .int .i64 zu, .bool br]) ([.slice A n c, .slice B m bb, .int .i64 fz, .bool fl, .int .i64 zt, sv st, .slice Ar nr cr, .int .i64 zu, .bool br]) _ (fun w hw => hw.1) rfl rfl Tryz.underlying51 rfl (by kernel_rfl)) ?_
  refine ty 4 (.agg ([.int .i64 ok, .int .i64 on, .int .i64 om, .int .u8 of, .slice As ms cs] : List Value).toArray) rfl (yieldsIf_load rfl 42 (.tmp 3) rfl b3 0 5 42 ([.int .i64 ok, .int .i64 on, .int .i64 om, .int .u8 of, .slice As ms cs]) ([.int .i64 ok, .int .i64 on, .int .i64 om, .int .u8 of, .slice As ms cs]) _ (fun w hw => hw.2) (take_all rfl) rfl Tryz.underlying42 rfl (by kernel_rfl)) ?_
  refine' rt_2 (I := fun (b5 : Nat) (v6 : Value) W => (Own w0 [] [(x, 55, [.pointer (some ⟨d, 0, none⟩), .pointer (some ⟨g, 0, none⟩), .slice A n c, .slice B m bb, .int .i64 fz, .bool fl, .int .i64 zt, sv st, .slice Ar nr cr, .int .i64 zu, .bool br]), (b3, 42, [.int .i64 ok, .int .i64 on, .int .i64 om, .int .u8 of, .slice As ms cs]), (b5, 51, zjr)] W) ∧ (Zs (fun W G => Jn W g d G D J) w0 W0 X [x, b3, b5] W v6 (jSave D J (pText o)).1 (jSave D J (pText o)).2.1)) (fun k1Tatu => ?_) ?_
  rotate_left
  refine' rt_1 (I := fun (b5 : Nat) W => (Own w0 [] [(x, 55, [.pointer (some ⟨d, 0, none⟩), .pointer (some ⟨g, 0, none⟩), .slice A n c, .slice B m bb, .int .i64 fz, .bool fl, .int .i64 zt, sv st, .slice Ar nr cr, .int .i64 zu, .bool br]), (b3, 42, [.int .i64 ok, .int .i64 on, .int .i64 om, .int .u8 of, .slice As ms cs]), (b5, 51, zjr)] W) ∧ (Zs (fun W G => Jn W g d G D J) w0 W0 X [x, b3, b5] W (.agg ([.slice A n c, .slice B m bb, .int .i64 fz, .bool fl, .int .i64 zt, sv st, .slice Ar nr cr, .int .i64 zu, .bool br] : List Value).toArray) D J)) (fun k1Tat => ?_) ?_
  rotate_left
  ·refine wpAnyH_ready (rs := [5, 10]) (by kernel_rfl) (by simp) ?_
   refine AllReadyH.cons rfl (fun K hK => ?_) (AllReadyH.cons rfl (fun K hK => ?_) (AllReadyH.nil))
   ·go_simp
    refine (HTX.out _).mono ?_
    rintro e w5 ⟨rfl, hb5⟩
    replace HO := hide (HO.out.step hb5)
    replace HZ := hide (HZ.out.step (keeps_jn g d D J) hb5)
    clear hb5
    refine hK.out _ _ (⟨HO.out.cells 0 rfl, HO.out.cells 1 rfl⟩) (fun _ => ?_)
    clear hK K
    try simp only [Act.put, qa, qb, qc, qd, qe, qf]
    refine wpAnyH_ready (rs := [6, 10]) (by kernel_rfl) (by simp) ?_
    refine AllReadyH.cons rfl (fun K hK => ?_) (AllReadyH.cons rfl (fun K hK => ?_) (AllReadyH.nil))
    ·go_simp
     refine (Zs.ref (keeps_jn g d D J) HZ.out (fun F hr hF => rsave_c F _ D J (pText o) _ rfl (pText_len o) _ hr hF HS.out.sz (by have := HS.out.few; omega) (by have := HS.out.top; omega) HJ.out)).mono ?_
     rintro e w5 ⟨v6, rfl, hb5, hz⟩
     replace HO := hide (HO.out.step hb5)
     replace HZ := hide hz
     clear hb5 hz
     refine hK.out _ _ (⟨HO.out.cells 0 rfl, HO.out.cells 1 rfl⟩) (fun _ => ?_)
     clear hK K
     try simp only [Act.put, qa, qb, qc, qd, qe, qf]
     refine tk 7 ?_
     refine tk 8 ?_
     refine tk 9 ?_
     refine tr1 10 fun K hK => ?_
     refine step_alloc_own_n HO.out rfl 51 rfl zjr rjr_info ?_
     intro WA b5 hb hO hbel
     replace HZ := hide (HZ.out.push (keeps_jn g d D J) hb hbel (hO.blk 2 rfl).lt)
     replace HO := hide hO
     clear hO hbel hb
     refine hK.out _ _ (⟨HO.out.cells 0 rfl, HO.out.cells 1 rfl⟩) (fun _ => ?_)
     clear hK K
     try simp only [Act.put, qa, qb, qc, qd, qe, qf]
     exact k1Tatu b5 v6 _ ⟨HO.out, HZ.out⟩
    ·refine step_alloc_own_n HO.out rfl 51 rfl zjr rjr_info ?_
     intro WA b5 hb hO hbel
     replace HZ := hide (HZ.out.push (keeps_jn g d D J) hb hbel (hO.blk 2 rfl).lt)
     replace HO := hide hO
     clear hO hbel hb
     refine hK.out _ _ (⟨HO.out.cells 0 rfl, HO.out.cells 1 rfl⟩) (fun _ => ?_)
     clear hK K
     try simp only [Act.put, qa, qb, qc, qd, qe, qf]
     exact k1Tat b5 _ ⟨HO.out, HZ.out⟩
   ·refine step_alloc_own_n HO.out rfl 51 rfl zjr rjr_info ?_
    intro WA b5 hb hO hbel
    replace HZ := hide (HZ.out.push (keeps_jn g d D J) hb hbel (hO.blk 2 rfl).lt)
    replace HO := hide hO
    clear hO hbel hb
    refine hK.out _ _ (⟨HO.out.cells 0 rfl, HO.out.cells 1 rfl⟩) (fun _ => ?_)
    clear hK K
    try simp only [Act.put, qa, qb, qc, qd, qe, qf]
    refine tr1 5 fun K hK => ?_
    go_simp
    refine (HTX.out _).mono ?_
    rintro e w5 ⟨rfl, hb5⟩
    replace HO := hide (HO.out.step hb5)
    replace HZ := hide (HZ.out.step (keeps_jn g d D J) hb5)
    clear hb5
    refine hK.out _ _ (⟨HO.out.cells 0 rfl, HO.out.cells 1 rfl⟩) (fun _ => ?_)
    clear hK K
    try simp only [Act.put, qa, qb, qc, qd, qe, qf]
    exact k1Tat b5 _ ⟨HO.out, HZ.out⟩
  ·intro b5 WT hI
   obtain ⟨h0, h1⟩ := hI
   have HO := hide h0
   have HZ := hide h1
   clear h0 h1
   have hSS : (fun W => (∀ j, W.cell? ⟨x, j, none⟩ = ([.pointer (some ⟨d, 0, none⟩), .pointer (some ⟨g, 0, none⟩), .slice A n c, .slice B m bb, .int .i64 fz, .bool fl, .int .i64 zt, sv st, .slice Ar nr cr, .int .i64 zu, .bool br] : List Value)[j]?) ∧ (∀ j, W.cell? ⟨b3, j, none⟩ = ([.int .i64 ok, .int .i64 on, .int .i64 om, .int .u8 of, .slice As ms cs] : List Value)[j]?)) WT := ⟨HO.out.cells 0 rfl, HO.out.cells 1 rfl⟩
   refine tr1 6 fun K hK => ?_
   go_simp
   refine (Zs.ref (keeps_jn g d D J) HZ.out (fun F hr hF => rsave_c F _ D J (pText o) _ rfl (pText_len o) _ hr hF HS.out.sz (by have := HS.out.few; omega) (by have := HS.out.top; omega) HJ.out)).mono ?_
   rintro e w5 ⟨v6, rfl, hb5, hz⟩
   replace HO := hide (HO.out.step hb5)
   replace HZ := hide hz
   clear hb5 hz
   refine hK.out _ _ (⟨HO.out.cells 0 rfl, HO.out.cells 1 rfl⟩) (fun _ => ?_)
   clear hK K
   try simp only [Act.put, qa, qb, qc, qd, qe, qf]
   refine tk 7 ?_
   refine tk 8 ?_
   refine tk 9 ?_
   exact k1Tatu b5 v6 _ ⟨HO.out, HZ.out⟩
  ·intro b5 v6 WT hI
   obtain ⟨h0, h1⟩ := hI
   have HO := hide h0
   have HZ := hide h1
   clear h0 h1
   have hSS : (fun W => (∀ j, W.cell? ⟨x, j, none⟩ = ([.pointer (some ⟨d, 0, none⟩), .pointer (some ⟨g, 0, none⟩), .slice A n c, .slice B m bb, .int .i64 fz, .bool fl, .int .i64 zt, sv st, .slice Ar nr cr, .int .i64 zu, .bool br] : List Value)[j]?) ∧ (∀ j, W.cell? ⟨b3, j, none⟩ = ([.int .i64 ok, .int .i64 on, .int .i64 om, .int .u8 of, .slice As ms cs] : List Value)[j]?)) WT := ⟨HO.out.cells 0 rfl, HO.out.cells 1 rfl⟩
   refine tr1 11 fun K hK => ?_
   obtain ⟨A5, n5, c5, B5, m5, bb5, q5, rfl, Ar5, nr5, cr5, rfl, _⟩ := HZ.out.form
   unfold rjc at HZ ⊢
   generalize hz1 : (jSave D J (pText o)).1.fuse = fz5 at HZ ⊢
   generalize hz2 : (jSave D J (pText o)).1.failed = fl5 at HZ ⊢
   generalize hz3 : ((jSave D J (pText o)).2.1.turn : Int) = zt5 at HZ ⊢
   generalize hz4 : (jSave D J (pText o)).2.1.state = st5 at HZ ⊢
   generalize hz5 : ((jSave D J (pText o)).2.1.used : Int) = zu5 at HZ ⊢
   generalize hz6 : (jSave D J (pText o)).2.1.broken = br5 at HZ ⊢
   clear hz1 hz2 hz3 hz4 hz5 hz6
   refine step_store_own_t HO.out rfl 51 (.tmp 7) (.tmp 46) rfl 2 _ 0 _ _ ([.slice A5 n5 c5, .slice B5 m5 bb5, .int .i64 fz5, .bool fl5, .int .i64 zt5, sv st5, .slice Ar5 nr5 cr5, .int .i64 zu5, .bool br5]) ([.slice A5 n5 c5, .slice B5 m5 bb5, .int .i64 fz5, .bool fl5, .int .i64 zt5, sv st5, .slice Ar5 nr5 cr5, .int .i64 zu5, .bool br5]) rfl (.agg ([.slice A5 n5 c5, .slice B5 m5 bb5, .int .i64 fz5, .bool fl5, .int .i64 zt5, sv st5, .slice Ar5 nr5 cr5, .int .i64 zu5, .bool br5] : List Value).toArray) rfl rfl (fits_agg _) (by simp [zjr]) rfl (by kernel_rfl) rfl ?_
   intro WA hO _ ht
   replace HZ := hide (HZ.out.put (keeps_jn g d D J) (by simp) ht)
   replace HO := hide hO
   clear hO ht
   refine hK.out _ _ (⟨HO.out.cells 0 rfl, HO.out.cells 1 rfl⟩) (fun _ => ?_)
   clear hK K
   try simp only [Act.put, qa, qb, qc, qd, qe, qf]
   refine tk 12 ?_
   refine wpAnyH_done (by kernel_rfl) ?_ _
   go_wp2_with (first
    | ((with_reducible refine at_load 51 (.tmp 7) ?_); refine wpList_load_own HO.out rfl 51 (.tmp 7) rfl 2 _ 0 9 _ _ ([.slice A5 n5 c5, .slice B5 m5 bb5, .int .i64 fz5, .bool fl5, .int .i64 zt5, sv st5, .slice Ar5 nr5 cr5, .int .i64 zu5, .bool br5]) _ rfl rfl rfl Tryz.underlying51 rfl (by kernel_rfl) ?_)
    | ((with_reducible refine at_store 51 (.tmp 51) ?_); refine wpList_store_own_t HO.out rfl 51 (.tmp 51) (.tmp 49) rfl 0 _ 2 _ _ ([.slice A5 n5 c5, .slice B5 m5 bb5, .int .i64 fz5, .bool fl5, .int .i64 zt5, sv st5, .slice Ar5 nr5 cr5, .int .i64 zu5, .bool br5]) ([.pointer (some ⟨d, 0, none⟩), .pointer (some ⟨g, 0, none⟩), .slice A5 n5 c5, .slice B5 m5 bb5, .int .i64 fz5, .bool fl5, .int .i64 zt5, sv st5, .slice Ar5 nr5 cr5, .int .i64 zu5, .bool br5]) rfl (.agg ([.slice A5 n5 c5, .slice B5 m5 bb5, .int .i64 fz5, .bool fl5, .int .i64 zt5, sv st5, .slice Ar5 nr5 cr5, .int .i64 zu5, .bool br5] : List Value).toArray) rfl rfl (fits_agg _) (by simp [zjr]) rfl (by kernel_rfl) rfl ?_; intro WA hO _ ht; replace HZ := hide (HZ.out.put (keeps_jn g d D J) (by simp) ht); replace HO := hide hO; clear hO ht; refine Hid.out ?_))
   refine hide ?_
   replace HO := hide (HO.out.sub (M := [(x, 55, [.pointer (some ⟨d, 0, none⟩), .pointer (some ⟨g, 0, none⟩), .slice A5 n5 c5, .slice B5 m5 bb5, .int .i64 fz5, .bool fl5, .int .i64 zt5, sv st5, .slice Ar5 nr5 cr5, .int .i64 zu5, .bool br5]), (b3, 42, [.int .i64 ok, .int .i64 on, .int .i64 om, .int .u8 of, .slice As ms cs])]) (by simp))
   replace HZ := hide (Zs.drop (M := [x, b3]) (N' := [b5]) HZ.out)
   go_wp2_with fail
   refine wp_region_held_drew (S := fun W => (∀ j, W.cell? ⟨x, j, none⟩ = ([.pointer (some ⟨d, 0, none⟩), .pointer (some ⟨g, 0, none⟩), .slice A5 n5 c5, .slice B5 m5 bb5, .int .i64 fz5, .bool fl5, .int .i64 zt5, sv st5, .slice Ar5 nr5 cr5, .int .i64 zu5, .bool br5] : List Value)[j]?) ∧ (∀ j, W.cell? ⟨b3, j, none⟩ = ([.int .i64 ok, .int .i64 on, .int .i64 om, .int .u8 of, .slice As ms cs] : List Value)[j]?)) (by kernel_rfl) (⟨HO.out.drew.cells 0 rfl, HO.out.drew.cells 1 rfl⟩) (fun hS0 => ?_)
   replace HO := hide HO.out.drew
   replace HZ := hide (HZ.out.step (keeps_jn g d D J) (below_drew _))
   refine tk 0 ?_
   refine tk 1 ?_
   refine tk 2 ?_
   refine tk 3 ?_
   refine ty 4 (.agg ([.int .i64 ok, .int .i64 on, .int .i64 om, .int .u8 of, .slice As ms cs] : List Value).toArray) rfl (yieldsIf_load rfl 42 (.tmp 3) rfl b3 0 5 42 ([.int .i64 ok, .int .i64 on, .int .i64 om, .int .u8 of, .slice As ms cs]) ([.int .i64 ok, .int .i64 on, .int .i64 om, .int .u8 of, .slice As ms cs]) _ (fun w hw => hw.2) (take_all rfl) rfl Tryz.underlying42 rfl (by kernel_rfl)) ?_
   refine tk 7 ?_
   refine tr1 5 fun K hK => ?_
   go_simp
   refine (HTX.out _).mono ?_
   rintro e w5 ⟨rfl, hb5⟩
   replace HO := hide (HO.out.step hb5)
   replace HZ := hide (HZ.out.step (keeps_jn g d D J) hb5)
   clear hb5
   refine hK.out _ _ (⟨HO.out.cells 0 rfl, HO.out.cells 1 rfl⟩) (fun hS6 => ?_)
   clear hK K
   try simp only [Act.put, qa, qb, qc, qd, qe, qf]
   refine tr1 6 fun K hK => ?_
   go_simp
   refine (Zs.turn (P' := fun W G => Jn W g d G (jSave D J (pText o)).1 (jSave D J (pText o)).2.1) (R := fun e => e = .returned (.int .i64 (jSave D J (pText o)).2.2)) HZ.out (fun G hG => (jsave_c g d G D J (pText o) _ rfl (pText_len o) _ hG HS.out.sz (by have := HS.out.few; omega) HJ.out).mono fun e w' h => turns_jdoes h)).mono ?_
   rintro e w6 ⟨rfl, hz, hst⟩
   replace HO := hide (hst [(x, 55, [.pointer (some ⟨d, 0, none⟩), .pointer (some ⟨g, 0, none⟩), .slice A5 n5 c5, .slice B5 m5 bb5, .int .i64 fz5, .bool fl5, .int .i64 zt5, sv st5, .slice Ar5 nr5 cr5, .int .i64 zu5, .bool br5]), (b3, 42, [.int .i64 ok, .int .i64 on, .int .i64 om, .int .u8 of, .slice As ms cs])] (by simp) HO.out)
   replace HZ := hide hz
   clear hst hz
   refine hK.out _ _ (⟨HO.out.cells 0 rfl, HO.out.cells 1 rfl⟩) (fun hS7 => ?_)
   clear hK K
   try simp only [Act.put, qa, qb, qc, qd, qe, qf]
   refine tk 8 ?_
   refine tk 9 ?_
   refine wpAnyH_done (by kernel_rfl) ?_ _
   clear hS0
   go_wp2_with fail
   go_ret
   exact ⟨rfl, g, by rw [HWS.out]; exact Ww.of (HO.out.sub (M := [(x, 55, [.pointer (some ⟨d, 0, none⟩), .pointer (some ⟨g, 0, none⟩), .slice A5 n5 c5, .slice B5 m5 bb5, .int .i64 fz5, .bool fl5, .int .i64 zt5, sv st5, .slice Ar5 nr5 cr5, .int .i64 zu5, .bool br5])]) (by simp)) (Zs.drop (M := [x]) (N' := [b3]) HZ.out)⟩
 by_cases hk2 : ok = 2
 ·have HKK : Hid (o.kind = 2) := hide (by rw [HKZ.out, hk2])
  have HWS : Hid (wStep D J o = ((reopen D).2.1, (reopen D).1)) := hide (by unfold wStep; rw [if_neg (by have := HKK.out; omega), if_neg (by have := HKK.out; omega), if_pos HKK.out])
  have q0 : (ok == 0) = false := by simpa using (by omega : ok ≠ 0)
  have q1 : (ok == 1) = false := by simpa using (by omega : ok ≠ 1)
  have q2 : (ok == 2) = true := by simpa using (by omega : ok = 2)
  clear hk0 hk1 hk2
  go_enter Tryz.func23, Tryz.ntmps23
  go_wp2_with (first
   | ((with_reducible refine at_box 42 (.tmp 1) ?_); refine wpList_box_own_n HO.out rfl 42 (.tmp 1) rfl ([.int .i64 ok, .int .i64 on, .int .i64 om, .int .u8 of, .slice As ms cs]) rfl ?_; intro WA b3 hb hO hbel; replace HZ := hide (HZ.out.push (keeps_jn g d D J) hb hbel (hO.blk 1 rfl).lt); replace HO := hide hO; clear hO hb hbel; have kx := HO.out.cells 0 rfl; have k3 := HO.out.cells 1 rfl))
  refine (wopen_c w0 W0 X x d g D J _ (Ww.of (HO.out.sub (M := [(x, 55, [.pointer (some ⟨d, 0, none⟩), .pointer (some ⟨g, 0, none⟩), .slice A n c, .slice B m bb, .int .i64 fz, .bool fl, .int .i64 zt, sv st, .slice Ar nr cr, .int .i64 zu, .bool br])]) (by simp)) (Zs.drop (M := [x]) (N' := [b3]) HZ.out)) HS.out).mono ?_
  rintro e w6 ⟨rfl, g', hw⟩
  have HW6 := hide hw
  clear hw
  go_wp2_with fail
  go_ret
  exact ⟨rfl, g', by rw [HWS.out]; exact HW6.out⟩
 by_cases hk3 : ok = 3
 ·have HKK : Hid (o.kind = 3) := hide (by rw [HKZ.out, hk3])
  have HWS : Hid (wStep D J o = (dFailAfter D om, J)) := hide (by unfold wStep; rw [if_neg (by have := HKK.out; omega), if_neg (by have := HKK.out; omega), if_neg (by have := HKK.out; omega), if_pos HKK.out, HOM.out])
  have q0 : (ok == 0) = false := by simpa using (by omega : ok ≠ 0)
  have q1 : (ok == 1) = false := by simpa using (by omega : ok ≠ 1)
  have q2 : (ok == 2) = false := by simpa using (by omega : ok ≠ 2)
  have q3 : (ok == 3) = true := by simpa using (by omega : ok = 3)
  clear hk0 hk1 hk2 hk3
  go_enter Tryz.func23, Tryz.ntmps23
  go_wp2_with (first
   | ((with_reducible refine at_box 42 (.tmp 1) ?_); refine wpList_box_own_n HO.out rfl 42 (.tmp 1) rfl ([.int .i64 ok, .int .i64 on, .int .i64 om, .int .u8 of, .slice As ms cs]) rfl ?_; intro WA b3 hb hO hbel; replace HZ := hide (HZ.out.push (keeps_jn g d D J) hb hbel (hO.blk 1 rfl).lt); replace HO := hide hO; clear hO hb hbel; have kx := HO.out.cells 0 rfl; have k3 := HO.out.cells 1 rfl))
  refine wp_region_held_drew (S := fun W => (∀ j, W.cell? ⟨x, j, none⟩ = ([.pointer (some ⟨d, 0, none⟩), .pointer (some ⟨g, 0, none⟩), .slice A n c, .slice B m bb, .int .i64 fz, .bool fl, .int .i64 zt, sv st, .slice Ar nr cr, .int .i64 zu, .bool br] : List Value)[j]?) ∧ (∀ j, W.cell? ⟨b3, j, none⟩ = ([.int .i64 ok, .int .i64 on, .int .i64 om, .int .u8 of, .slice As ms cs] : List Value)[j]?)) (by kernel_rfl) (⟨HO.out.drew.cells 0 rfl, HO.out.drew.cells 1 rfl⟩) (fun hS0 => ?_)
  replace HO := hide HO.out.drew
  replace HZ := hide (HZ.out.step (keeps_jn g d D J) (below_drew _))
  refine tk 0 ?_
  refine tk 1 ?_
  refine tk 2 ?_
  refine tk 3 ?_
  refine tk 4 ?_
  refine tk 5 ?_
  refine tr1 6 fun K hK => ?_
  go_simp
  refine (Zs.turn (P' := fun W G => Jn W g d G (dFailAfter D om) J) (R := fun e => e = .returned (.tuple #[])) HZ.out (fun G hG => HFA.out G _ hG)).mono ?_
  rintro e w6 ⟨rfl, hz, hst⟩
  replace HO := hide (hst [(x, 55, [.pointer (some ⟨d, 0, none⟩), .pointer (some ⟨g, 0, none⟩), .slice A n c, .slice B m bb, .int .i64 fz, .bool fl, .int .i64 zt, sv st, .slice Ar nr cr, .int .i64 zu, .bool br]), (b3, 42, [.int .i64 ok, .int .i64 on, .int .i64 om, .int .u8 of, .slice As ms cs])] (by simp) HO.out)
  replace HZ := hide hz
  clear hst hz
  refine hK.out _ _ (⟨HO.out.cells 0 rfl, HO.out.cells 1 rfl⟩) (fun hS6 => ?_)
  clear hK K
  try simp only [Act.put, qa, qb, qc, qd, qe, qf]
  refine wpAnyH_done (by kernel_rfl) ?_ _
  clear hS0
  go_wp2_with fail
  refine wp_region_held_drew (S := fun W => (∀ j, W.cell? ⟨b3, j, none⟩ = ([.int .i64 ok, .int .i64 on, .int .i64 om, .int .u8 of, .slice As ms cs] : List Value)[j]?)) (by kernel_rfl) (HO.out.drew.cells 1 rfl) (fun hS0 => ?_)
  replace HO := hide HO.out.drew
  replace HZ := hide (HZ.out.step (keeps_jn g d (dFailAfter D om) J) (below_drew _))
  refine tk 0 ?_
  refine tk 1 ?_
  refine tk 2 ?_
  refine tk 3 ?_
  refine tk 4 ?_
  refine tk 6 ?_
  refine tk 7 ?_
  refine tr1 5 fun K hK => ?_
  refine step_load_own HO.out rfl 32 (.tmp 78) rfl 0 _ 2 4 _ _ ([.slice A n c, .slice B m bb, .int .i64 fz, .bool fl]) _ rfl rfl rfl Tryz.underlying32 rfl (by kernel_rfl) ?_
  refine hK.out _ _ (HO.out.cells 1 rfl) (fun hS7 => ?_)
  clear hK K
  try simp only [Act.put, qa, qb, qc, qd, qe, qf]
  refine tr1 8 fun K hK => ?_
  go_simp
  refine (Zs.refD (D' := dFailAfter D om) (keeps_jn g d (dFailAfter D om) J) HZ.out (fun F hr hF => HFB.out F _ hr)).mono ?_
  rintro e w7 ⟨A6, n6, c6, B6, m6, bb6, fz6, fl6, rfl, hb7, hz⟩
  replace HO := hide (HO.out.step hb7)
  replace HZ := hide hz
  unfold rjc at HZ
  clear hz hb7
  refine hK.out _ _ (HO.out.cells 1 rfl) (fun hS8 => ?_)
  clear hK K
  try simp only [Act.put, qa, qb, qc, qd, qe, qf]
  refine tk 9 ?_
  refine tk 10 ?_
  refine tk 11 ?_
  refine tr1 12 fun K hK => ?_
  refine step_store_own_t HO.out rfl 32 (.tmp 85) (.tmp 82) rfl 0 _ 2 _ _ ([.slice A6 n6 c6, .slice B6 m6 bb6, .int .i64 fz6, .bool fl6]) ([.pointer (some ⟨d, 0, none⟩), .pointer (some ⟨g, 0, none⟩), .slice A6 n6 c6, .slice B6 m6 bb6, .int .i64 fz6, .bool fl6, .int .i64 zt, sv st, .slice Ar nr cr, .int .i64 zu, .bool br]) rfl (.agg ([.slice A6 n6 c6, .slice B6 m6 bb6, .int .i64 fz6, .bool fl6] : List Value).toArray) rfl rfl (fits_agg _) (by simp) rfl (by kernel_rfl) rfl ?_
  intro WA hO _ ht
  replace HZ := hide (HZ.out.put (keeps_jn g d (dFailAfter D om) J) (by simp) ht)
  replace HO := hide hO
  clear hO ht
  refine hK.out _ _ (HO.out.cells 1 rfl) (fun hS12 => ?_)
  clear hK K
  try simp only [Act.put, qa, qb, qc, qd, qe, qf]
  refine wpAnyH_done (by kernel_rfl) ?_ _
  clear hS0
  go_wp2_with fail
  go_ret
  exact ⟨rfl, g, by rw [HWS.out]; exact (Ww.of (HO.out.sub (M := [(x, 55, [.pointer (some ⟨d, 0, none⟩), .pointer (some ⟨g, 0, none⟩), .slice A6 n6 c6, .slice B6 m6 bb6, .int .i64 fz6, .bool fl6, .int .i64 zt, sv st, .slice Ar nr cr, .int .i64 zu, .bool br])]) (by simp)) (Zs.drop (M := [x]) (N' := [b3]) HZ.out))⟩
 by_cases hk4 : ok = 4
 ·have HKK : Hid (o.kind = 4) := hide (by rw [HKZ.out, hk4])
  have HWS : Hid (wStep D J o = ((reopen (dCrash D o.sl)).2.1, (reopen (dCrash D o.sl)).1)) := hide (by unfold wStep; rw [if_neg (by have := HKK.out; omega), if_neg (by have := HKK.out; omega), if_neg (by have := HKK.out; omega), if_neg (by have := HKK.out; omega), if_pos HKK.out])
  have q0 : (ok == 0) = false := by simpa using (by omega : ok ≠ 0)
  have q1 : (ok == 1) = false := by simpa using (by omega : ok ≠ 1)
  have q2 : (ok == 2) = false := by simpa using (by omega : ok ≠ 2)
  have q3 : (ok == 3) = false := by simpa using (by omega : ok ≠ 3)
  have q4 : (ok == 4) = true := by simpa using (by omega : ok = 4)
  clear hk0 hk1 hk2 hk3 hk4
  go_enter Tryz.func23, Tryz.ntmps23
  go_wp2_with (first
   | ((with_reducible refine at_box 42 (.tmp 1) ?_); refine wpList_box_own_n HO.out rfl 42 (.tmp 1) rfl ([.int .i64 ok, .int .i64 on, .int .i64 om, .int .u8 of, .slice As ms cs]) rfl ?_; intro WA b3 hb hO hbel; replace HZ := hide (HZ.out.push (keeps_jn g d D J) hb hbel (hO.blk 1 rfl).lt); replace HO := hide hO; clear hO hb hbel; have kx := HO.out.cells 0 rfl; have k3 := HO.out.cells 1 rfl))
  refine wp_region_held_drew (S := fun W => (∀ j, W.cell? ⟨x, j, none⟩ = ([.pointer (some ⟨d, 0, none⟩), .pointer (some ⟨g, 0, none⟩), .slice A n c, .slice B m bb, .int .i64 fz, .bool fl, .int .i64 zt, sv st, .slice Ar nr cr, .int .i64 zu, .bool br] : List Value)[j]?) ∧ (∀ j, W.cell? ⟨b3, j, none⟩ = ([.int .i64 ok, .int .i64 on, .int .i64 om, .int .u8 of, .slice As ms cs] : List Value)[j]?)) (by kernel_rfl) (⟨HO.out.drew.cells 0 rfl, HO.out.drew.cells 1 rfl⟩) (fun hS0 => ?_)
  replace HO := hide HO.out.drew
  replace HZ := hide (HZ.out.step (keeps_jn g d D J) (below_drew _))
  refine tk 0 ?_
  refine tk 1 ?_
  refine tk 2 ?_
  refine tk 3 ?_
  refine tk 4 ?_
  refine tk 5 ?_
  refine tr1 6 fun K hK => ?_
  go_simp
  refine (Zs.turnG (P' := fun W G => Jn W g d G (dCrash D o.sl) J) (R := fun e => e = .returned (.tuple #[])) HZ.out (fun G hG hlo => HCA.out G _ HO.out.below hlo hG)).mono ?_
  rintro e w6 ⟨rfl, hz, hst⟩
  replace HO := hide (hst [(x, 55, [.pointer (some ⟨d, 0, none⟩), .pointer (some ⟨g, 0, none⟩), .slice A n c, .slice B m bb, .int .i64 fz, .bool fl, .int .i64 zt, sv st, .slice Ar nr cr, .int .i64 zu, .bool br]), (b3, 42, [.int .i64 ok, .int .i64 on, .int .i64 om, .int .u8 of, .slice As ms cs])] (by simp) HO.out)
  replace HZ := hide hz
  clear hst hz
  refine hK.out _ _ (⟨HO.out.cells 0 rfl, HO.out.cells 1 rfl⟩) (fun hS6 => ?_)
  clear hK K
  try simp only [Act.put, qa, qb, qc, qd, qe, qf]
  refine wpAnyH_done (by kernel_rfl) ?_ _
  clear hS0
  go_wp2_with fail
  refine wp_region_held_drew (S := fun W => (∀ j, W.cell? ⟨b3, j, none⟩ = ([.int .i64 ok, .int .i64 on, .int .i64 om, .int .u8 of, .slice As ms cs] : List Value)[j]?)) (by kernel_rfl) (HO.out.drew.cells 1 rfl) (fun hS0 => ?_)
  replace HO := hide HO.out.drew
  replace HZ := hide (HZ.out.step (keeps_jn g d (dCrash D o.sl) J) (below_drew _))
  refine tk 0 ?_
  refine tk 1 ?_
  refine tk 2 ?_
  refine tk 3 ?_
  refine tk 4 ?_
  refine tk 6 ?_
  refine tk 7 ?_
  refine tr1 5 fun K hK => ?_
  refine step_load_own HO.out rfl 32 (.tmp 99) rfl 0 _ 2 4 _ _ ([.slice A n c, .slice B m bb, .int .i64 fz, .bool fl]) _ rfl rfl rfl Tryz.underlying32 rfl (by kernel_rfl) ?_
  refine hK.out _ _ (HO.out.cells 1 rfl) (fun hS7 => ?_)
  clear hK K
  try simp only [Act.put, qa, qb, qc, qd, qe, qf]
  refine tr1 8 fun K hK => ?_
  go_simp
  refine (Zs.refD (D' := dCrash D o.sl) (keeps_jn g d (dCrash D o.sl) J) HZ.out (fun F hr hF => HCB.out F _ HO.out.below hr hF)).mono ?_
  rintro e w7 ⟨A6, n6, c6, B6, m6, bb6, fz6, fl6, rfl, hb7, hz⟩
  replace HO := hide (HO.out.step hb7)
  replace HZ := hide hz
  unfold rjc at HZ
  clear hz hb7
  refine hK.out _ _ (HO.out.cells 1 rfl) (fun hS8 => ?_)
  clear hK K
  try simp only [Act.put, qa, qb, qc, qd, qe, qf]
  refine tk 9 ?_
  refine tk 10 ?_
  refine tk 11 ?_
  refine tr1 12 fun K hK => ?_
  refine step_store_own_t HO.out rfl 32 (.tmp 106) (.tmp 103) rfl 0 _ 2 _ _ ([.slice A6 n6 c6, .slice B6 m6 bb6, .int .i64 fz6, .bool fl6]) ([.pointer (some ⟨d, 0, none⟩), .pointer (some ⟨g, 0, none⟩), .slice A6 n6 c6, .slice B6 m6 bb6, .int .i64 fz6, .bool fl6, .int .i64 zt, sv st, .slice Ar nr cr, .int .i64 zu, .bool br]) rfl (.agg ([.slice A6 n6 c6, .slice B6 m6 bb6, .int .i64 fz6, .bool fl6] : List Value).toArray) rfl rfl (fits_agg _) (by simp) rfl (by kernel_rfl) rfl ?_
  intro WA hO _ ht
  replace HZ := hide (HZ.out.put (keeps_jn g d (dCrash D o.sl) J) (by simp) ht)
  replace HO := hide hO
  clear hO ht
  refine hK.out _ _ (HO.out.cells 1 rfl) (fun hS12 => ?_)
  clear hK K
  try simp only [Act.put, qa, qb, qc, qd, qe, qf]
  refine wpAnyH_done (by kernel_rfl) ?_ _
  clear hS0
  go_wp2_with fail
  refine (wopen_c w0 W0 X x d g (dCrash D o.sl) J _ (Ww.of (HO.out.sub (M := [(x, 55, [.pointer (some ⟨d, 0, none⟩), .pointer (some ⟨g, 0, none⟩), .slice A6 n6 c6, .slice B6 m6 bb6, .int .i64 fz6, .bool fl6, .int .i64 zt, sv st, .slice Ar nr cr, .int .i64 zu, .bool br])]) (by simp)) (Zs.drop (M := [x]) (N' := [b3]) HZ.out)) (sound_crash HS.out o.sl).1).mono ?_
  rintro e w9 ⟨rfl, g', hw⟩
  have HW6 := hide hw
  clear hw
  go_wp2_with fail
  go_ret
  exact ⟨rfl, g', by rw [HWS.out]; exact HW6.out⟩
 ·have HK0 : Hid (¬ o.kind = 0) := hide (by rw [HKZ.out]; exact hk0)
  have HK1 : Hid (¬ o.kind = 1) := hide (by rw [HKZ.out]; exact hk1)
  have HK2 : Hid (¬ o.kind = 2) := hide (by rw [HKZ.out]; exact hk2)
  have HK3 : Hid (¬ o.kind = 3) := hide (by rw [HKZ.out]; exact hk3)
  have HK4 : Hid (¬ o.kind = 4) := hide (by rw [HKZ.out]; exact hk4)
  have HWS : Hid (wStep D J o = (D, J)) := hide (by unfold wStep; rw [if_neg HK0.out, if_neg HK1.out, if_neg HK2.out, if_neg HK3.out, if_neg HK4.out])
  have q0 : (ok == 0) = false := by simpa using hk0
  have q1 : (ok == 1) = false := by simpa using hk1
  have q2 : (ok == 2) = false := by simpa using hk2
  have q3 : (ok == 3) = false := by simpa using hk3
  have q4 : (ok == 4) = false := by simpa using hk4
  clear hk0 hk1 hk2 hk3 hk4
  go_enter Tryz.func23, Tryz.ntmps23
  go_wp2_with (first
   | ((with_reducible refine at_box 42 (.tmp 1) ?_); refine wpList_box_own_n HO.out rfl 42 (.tmp 1) rfl ([.int .i64 ok, .int .i64 on, .int .i64 om, .int .u8 of, .slice As ms cs]) rfl ?_; intro WA b3 hb hO hbel; replace HZ := hide (HZ.out.push (keeps_jn g d D J) hb hbel (hO.blk 1 rfl).lt); replace HO := hide hO; clear hO hb hbel; have kx := HO.out.cells 0 rfl; have k3 := HO.out.cells 1 rfl))
  go_ret
  exact ⟨rfl, g, by rw [HWS.out]; exact (Ww.of (HO.out.sub (M := [(x, 55, [.pointer (some ⟨d, 0, none⟩), .pointer (some ⟨g, 0, none⟩), .slice A n c, .slice B m bb, .int .i64 fz, .bool fl, .int .i64 zt, sv st, .slice Ar nr cr, .int .i64 zu, .bool br])]) (by simp)) (Zs.drop (M := [x]) (N' := [b3]) HZ.out))⟩
end Go.Proofs.YtpadgkkeihhneaaGreat
