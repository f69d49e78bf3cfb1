/- The law's open. -/
import Derived.Test.YtpadgkkeihhneaaGreatC40
namespace Go.Proofs.YtpadgkkeihhneaaGreat
set_option maxRecDepth 100000
set_option linter.unusedSimpArgs false
set_option linter.unusedVariables false
open List renaming getElem_toArray → qa, getElem_cons_zero → qb, getElem_cons_succ → qc, setIfInBounds_toArray → qd, set_cons_zero → qe, set_cons_succ → qf
open Go.ChangeShapes Go.WideShapes Go.ChangeAt Go.RowKit
/-- A World of the law at block x, in the state of the disk D and the journal J. -/
def wcs (d g : Nat) (vc : List Value) : List Value := .pointer (some ⟨d, 0, none⟩) :: .pointer (some ⟨g, 0, none⟩) :: vc
def Ww (w0 W0 : World) (X : List Nat) (x d g : Nat) (W : World) (D : DS) (J : JS) : Prop := ∃ A n c B m b Ar nr cr, Own w0 [] [(x, 55, wcs d g (rjc A n c B m b D.fuse D.failed J.turn (sv J.state) (.slice Ar nr cr) J.used J.broken))] W ∧ Zs (fun W G => Jn W g d G D J) w0 W0 X [x] W (.agg (rjc A n c B m b D.fuse D.failed J.turn (sv J.state) (.slice Ar nr cr) J.used J.broken).toArray) D J
theorem Ww.of {w0 W0 W : World} {X : List Nat} {x d g : Nat} {D : DS} {J : JS} {vc : List Value} (hO : Own w0 [] [(x, 55, wcs d g vc)] W) (hZ : Zs (fun W G => Jn W g d G D J) w0 W0 X [x] W (.agg vc.toArray) D J) : Ww w0 W0 X x d g W D J := by
 obtain ⟨A, n, c, B, m, b, q, hv, Ar, nr, cr, rfl, _⟩ := hZ.form
 have e : vc = rjc A n c B m b D.fuse D.failed J.turn (sv J.state) (.slice Ar nr cr) J.used J.broken := by
  injection hv with hv
  exact List.toArray_inj hv
 subst e
 exact ⟨A, n, c, B, m, b, Ar, nr, cr, hO, hZ⟩
set_option maxHeartbeats 16000000 in
theorem wopen_c (w0 W0 : World) (X : List Nat) (x d g : Nat) (D : DS) (J : JS) (W : World) (h : Ww w0 W0 X x d g W D J) (hs : Sound D) : Calls Tryz.prog 25 #[.pointer (some ⟨x, 0, none⟩)] W fun e W' => e = .returned (.bool true) ∧ ∃ g', Ww w0 W0 X x d g' W' (reopen D).2.1 (reopen D).1 := by
 obtain ⟨J2, D2, hre, hs2, _, hln, _⟩ := reopen_any hs
 have HRE := hide hre
 rw [hre]
 dsimp only
 obtain ⟨A, n, c, B, m, bb, Ar, nr, cr, hO, hZ⟩ := h
 unfold wcs rjc at hO
 unfold rjc at hZ
 generalize D.fuse = fz at hO hZ
 generalize D.failed = fl at hO hZ
 generalize (J.turn : Int) = zt at hO hZ
 generalize J.state = st at hO hZ
 generalize (J.used : Int) = zu at hO hZ
 generalize J.broken = br at hO hZ
 have HO := hide hO
 have HZ := hide hZ
 have HS := hide hs
 clear hO hZ hre hs2 hln
 go_enter Tryz.func25, Tryz.ntmps25
 try clear kx
 have kx := HO.out.cells 0 rfl
 go_wp2_with fail
 refine (Zs.failed keeps_disk HZ.out).mono ?_
 rintro e w1 ⟨rfl, rfl⟩
 cases hfl : D.failed with
 | true =>
  have hR1 : reopen D = if (jOpen (dCrash D [])).2.2 = 0 then jOpen (dCrash D []) else jOpen (dCrash (jOpen (dCrash D [])).2.1 []) := by unfold reopen; rw [hfl]; rfl
  clear hs hfl
  have HS1 := hide (sound_crash HS.out []).1
  have HF1 : Hid ((dCrash D []).failed = false) := hide rfl
  go_wp2_with fail
  refine (Zs.turn (P' := fun W G => Disk W d G (dCrash D [])) (R := fun e => e = .returned (.tuple #[])) HZ.out.disk (fun G hG => (crash_cR d G D (.slice none 0 0) [] _ hG (is_nil _) (by simp)).mono fun e w' h => turns_does h)).mono ?_
  rintro e w2 ⟨rfl, hz, hst⟩
  replace HO := hide (hst [(x, 55, [.pointer (some ⟨d, 0, none⟩), .pointer (some ⟨g, 0, none⟩), .slice A n c, .slice B m bb, .int .i64 fz, .bool fl, .int .i64 zt, sv st, .slice Ar nr cr, .int .i64 zu, .bool br])] (by simp) HO.out)
  replace HZ := hide hz
  clear hst hz
  try clear kx
  have kx := HO.out.cells 0 rfl
  go_wp2_with (first
   | ((with_reducible refine at_load 32 (.tmp 21) ?_); refine wpList_load_own HO.out rfl 32 (.tmp 21) rfl 0 _ 2 4 _ _ ([.slice A n c, .slice B m bb, .int .i64 fz, .bool fl]) _ rfl rfl rfl Tryz.underlying32 rfl (by kernel_rfl) ?_))
  refine (Zs.refD (keeps_dk d (dCrash D [])) HZ.out (fun F hr hF => crash_r F _ D (.slice none 0 0) [] _ hr (is_nil _) hF (by have := HS.out.few; omega) (by have := HS.out.top; omega))).mono ?_
  rintro e w3 ⟨A1, n1, c1, B1, m1, bb1, fz1, fl1, rfl, hb3, hz⟩
  replace HO := hide (HO.out.step hb3)
  replace HZ := hide hz
  unfold rjc at HZ
  clear hz hb3 kx
  go_wp2_with (first
   | ((with_reducible refine at_store 32 (.tmp 26) ?_); refine wpList_store_own_t HO.out rfl 32 (.tmp 26) (.tmp 23) rfl 0 _ 2 _ _ ([.slice A1 n1 c1, .slice B1 m1 bb1, .int .i64 fz1, .bool fl1]) ([.pointer (some ⟨d, 0, none⟩), .pointer (some ⟨g, 0, none⟩), .slice A1 n1 c1, .slice B1 m1 bb1, .int .i64 fz1, .bool fl1, .int .i64 zt, sv st, .slice Ar nr cr, .int .i64 zu, .bool br]) rfl (.agg ([.slice A1 n1 c1, .slice B1 m1 bb1, .int .i64 fz1, .bool fl1] : List Value).toArray) rfl rfl (fits_agg _) (by simp [zjr]) rfl (by kernel_rfl) rfl ?_; intro WA hO _ ht; replace HZ := hide (HZ.out.put (keeps_dk d (dCrash D [])) (by simp) ht); replace HO := hide hO; clear hO ht; refine Hid.out ?_))
  refine hide ?_
  obtain ⟨r1, hjo⟩ : ∃ r, jOpen (dCrash D []) = r := ⟨_, rfl⟩
  obtain ⟨J1, E1, ec⟩ := r1
  have HJO : Hid (jO (dCrash D []) = (E1, J1, ec)) := hide (by unfold jO; rw [hjo])
  have HJ1 := hide hjo
  rw [hjo] at hR1
  have HSE : Hid (Sound E1) := hide (by have := (sound_open HS1.out HF1.out).1; rwa [hjo] at this)
  clear hjo
  have HR1 := hide hR1
  clear hR1
  try clear kx
  have kx := HO.out.cells 0 rfl
  go_wp2_with fail
  refine (Zs.turnE (ι := Option Nat) (P' := fun i => match i with | some g' => fun W G => Jn W g' d G E1 J1 | none => fun W G => Disk W d G E1) (R := fun i e => match i with | some g' => ec = 0 ∧ e = .returned (.tuple #[.pointer (some ⟨g', 0, none⟩), .int .i64 0]) | none => ec ≠ 0 ∧ e = .returned (.tuple #[.pointer none, .int .i64 ec])) HZ.out (fun G hG => ?_)).mono ?_
  ·refine (jopen_c d G (dCrash D []) _ hG (by have := HS1.out.few; omega) (by have := HS1.out.top; omega)).mono fun e w' h => ?_
   rw [HJ1.out] at h
   by_cases hec : ec = 0
   ·obtain ⟨g', he, ht⟩ := (turns_open h).1 hec
    (try dsimp only at he)
    exact ⟨some g', ⟨hec, he⟩, ht⟩
   ·obtain ⟨he, ht⟩ := (turns_open h).2 hec
    exact ⟨none, ⟨hec, he⟩, ht⟩
  rintro e w4 ⟨i, hR, hz, hst⟩
  replace HO := hide (hst [(x, 55, [.pointer (some ⟨d, 0, none⟩), .pointer (some ⟨g, 0, none⟩), .slice A1 n1 c1, .slice B1 m1 bb1, .int .i64 fz1, .bool fl1, .int .i64 zt, sv st, .slice Ar nr cr, .int .i64 zu, .bool br])] (by simp) HO.out)
  clear hst kx
  cases i with
  | some g2 =>
   obtain ⟨hec, rfl⟩ := hR
   subst hec
   replace HR1 : Hid ((J1, E1, (0 : Int)) = (J2, D2, 0)) := hide (by have h1 := HRE.out; rw [HR1.out, if_pos rfl] at h1; exact h1)
   obtain ⟨rfl, rfl⟩ : J1 = J2 ∧ E1 = D2 := by have h1 := HR1.out; injection h1 with h1 h2; injection h2 with h2 _; exact ⟨h1, h2⟩
   replace HZ : Hid (Zs (fun W G => Jn W g2 d G E1 J1) _ _ _ _ _ _ _ _) := hide hz
   clear hz
   try clear kx
   have kx := HO.out.cells 0 rfl
   go_wp2_with (first
    | ((with_reducible refine at_load 32 (.tmp 40) ?_); refine wpList_load_own HO.out rfl 32 (.tmp 40) rfl 0 _ 2 4 _ _ ([.slice A1 n1 c1, .slice B1 m1 bb1, .int .i64 fz1, .bool fl1]) _ rfl rfl rfl Tryz.underlying32 rfl (by kernel_rfl) ?_))
   refine (Zs.ref (r := (E1, J1, 0)) (keeps_jn g2 d E1 J1) HZ.out (fun F hr hF => by rw [← HJO.out]; exact ropen_c F _ _ _ (Rj.rf hr) hF HS1.out.sz (by have := HS1.out.few; omega) (by have := HS1.out.top; omega))).mono ?_
   rintro e w5 ⟨v', rfl, hb5, hz⟩
   replace HO := hide (HO.out.step hb5)
   (try dsimp only at hz)
   (try dsimp only)
   obtain ⟨A5, n5, c5, B5, m5, bb5, q5, rfl, Ar5, nr5, cr5, rfl, _⟩ := hz.form
   have HZ := hide hz
   clear hz hb5
   unfold rjc at HZ ⊢
   generalize (E1).fuse = fz5 at HZ ⊢
   generalize (E1).failed = fl5 at HZ ⊢
   generalize ((J1).turn : Int) = zt5 at HZ ⊢
   generalize (J1).state = st5 at HZ ⊢
   generalize ((J1).used : Int) = zu5 at HZ ⊢
   generalize (J1).broken = br5 at HZ ⊢
   go_wp2_with (first
    | ((with_reducible refine at_alloc 51 ?_); refine wpList_alloc_own_n HO.out rfl 51 rfl zjr rjr_info ?_; intro WA b5 hb hO hbel; replace HZ := hide (HZ.out.push (keeps_jn g2 d E1 J1) hb hbel (hO.blk 1 rfl).lt); replace HO := hide hO; clear hO hbel hb)
    | ((with_reducible refine at_store 51 (.tmp 5) ?_); refine wpList_store_own_t HO.out rfl 51 (.tmp 5) (.tmp 42) rfl 1 _ 0 _ _ ([.slice A5 n5 c5, .slice B5 m5 bb5, .int .i64 fz5, .bool fl5, .int .i64 zt5, sv st5, .slice Ar5 nr5 cr5, .int .i64 zu5, .bool br5]) ([.slice A5 n5 c5, .slice B5 m5 bb5, .int .i64 fz5, .bool fl5, .int .i64 zt5, sv st5, .slice Ar5 nr5 cr5, .int .i64 zu5, .bool br5]) rfl (.agg ([.slice A5 n5 c5, .slice B5 m5 bb5, .int .i64 fz5, .bool fl5, .int .i64 zt5, sv st5, .slice Ar5 nr5 cr5, .int .i64 zu5, .bool br5] : List Value).toArray) rfl rfl (fits_agg _) (by simp [zjr]) rfl (by kernel_rfl) rfl ?_; intro WA hO _ ht; replace HZ := hide (HZ.out.put (keeps_jn g2 d E1 J1) (by simp) ht); replace HO := hide hO; clear hO ht; refine Hid.out ?_))
   refine hide ?_
   go_wp2_with fail
   refine wp_region_held_drew (S := fun W => (∀ j, W.cell? ⟨b5, j, none⟩ = ([.slice A5 n5 c5, .slice B5 m5 bb5, .int .i64 fz5, .bool fl5, .int .i64 zt5, sv st5, .slice Ar5 nr5 cr5, .int .i64 zu5, .bool br5] : List Value)[j]?)) (by kernel_rfl) (HO.out.drew.cells 1 rfl) (fun hS0 => ?_)
   replace HO := hide HO.out.drew
   replace HZ := hide (HZ.out.step (keeps_jn g2 d E1 J1) (below_drew _))
   refine tk 0 ?_
   refine tk 1 ?_
   refine tk 2 ?_
   refine ty 3 (.agg ([.slice A5 n5 c5, .slice B5 m5 bb5, .int .i64 fz5, .bool fl5, .int .i64 zt5, sv st5, .slice Ar5 nr5 cr5, .int .i64 zu5, .bool br5] : List Value).toArray) rfl (yieldsIf_load rfl 51 (.tmp 5) rfl b5 0 9 51 ([.slice A5 n5 c5, .slice B5 m5 bb5, .int .i64 fz5, .bool fl5, .int .i64 zt5, sv st5, .slice Ar5 nr5 cr5, .int .i64 zu5, .bool br5]) ([.slice A5 n5 c5, .slice B5 m5 bb5, .int .i64 fz5, .bool fl5, .int .i64 zt5, sv st5, .slice Ar5 nr5 cr5, .int .i64 zu5, .bool br5]) _ (fun w hw => hw) (take_all rfl) rfl Tryz.underlying51 rfl (by kernel_rfl)) ?_
   refine tk 4 ?_
   refine tk 5 ?_
   refine tr1 6 fun K hK => ?_
   refine step_store_own_t HO.out rfl 46 (.tmp 77) (.tmp 74) rfl 0 _ 1 _ _ ([.pointer (some ⟨g2, 0, none⟩)]) ([.pointer (some ⟨d, 0, none⟩), .pointer (some ⟨g2, 0, none⟩), .slice A1 n1 c1, .slice B1 m1 bb1, .int .i64 fz1, .bool fl1, .int .i64 zt, sv st, .slice Ar nr cr, .int .i64 zu, .bool br]) rfl (.pointer (some ⟨g2, 0, none⟩)) rfl rfl (fits_one rfl) (by simp) rfl (by kernel_rfl) rfl ?_
   intro WA hO _ ht
   replace HZ := hide (HZ.out.put (keeps_jn g2 d E1 J1) (by simp) ht)
   replace HO := hide hO
   clear hO ht
   refine hK.out _ _ (HO.out.cells 1 rfl) (fun hS6 => ?_)
   clear hK K
   try simp only [Act.put, qa, qb, qc, qd, qe, qf]
   refine tk 7 ?_
   refine tk 8 ?_
   refine tr1 9 fun K hK => ?_
   refine step_store_own_t HO.out rfl 51 (.tmp 79) (.tmp 75) rfl 0 _ 2 _ _ ([.slice A5 n5 c5, .slice B5 m5 bb5, .int .i64 fz5, .bool fl5, .int .i64 zt5, sv st5, .slice Ar5 nr5 cr5, .int .i64 zu5, .bool br5]) ([.pointer (some ⟨d, 0, none⟩), .pointer (some ⟨g2, 0, none⟩), .slice A5 n5 c5, .slice B5 m5 bb5, .int .i64 fz5, .bool fl5, .int .i64 zt5, sv st5, .slice Ar5 nr5 cr5, .int .i64 zu5, .bool br5]) rfl (.agg ([.slice A5 n5 c5, .slice B5 m5 bb5, .int .i64 fz5, .bool fl5, .int .i64 zt5, sv st5, .slice Ar5 nr5 cr5, .int .i64 zu5, .bool br5] : List Value).toArray) rfl rfl (fits_agg _) (by simp) rfl (by kernel_rfl) rfl ?_
   intro WA hO _ ht
   replace HZ := hide (HZ.out.put (keeps_jn g2 d E1 J1) (by simp) ht)
   replace HO := hide hO
   clear hO ht
   refine hK.out _ _ (HO.out.cells 1 rfl) (fun hS9 => ?_)
   clear hK K
   try simp only [Act.put, qa, qb, qc, qd, qe, qf]
   refine wpAnyH_done (by kernel_rfl) ?_ _
   clear hS0
   go_wp2_with fail
   go_ret
   exact ⟨rfl, g2, Ww.of (HO.out.sub (M := [(x, 55, [.pointer (some ⟨d, 0, none⟩), .pointer (some ⟨g2, 0, none⟩), .slice A5 n5 c5, .slice B5 m5 bb5, .int .i64 fz5, .bool fl5, .int .i64 zt5, sv st5, .slice Ar5 nr5 cr5, .int .i64 zu5, .bool br5])]) (by simp)) (Zs.drop (N' := [b5]) HZ.out)⟩
  | none =>
   obtain ⟨hec, rfl⟩ := hR
   have hd1 : (ec != 0) = true := by simpa using hec
   have HEC := hide hec
   clear hec
   replace HZ : Hid (Zs (fun W G => Disk W d G E1) _ _ _ _ _ _ _ _) := hide hz
   clear hz
   try clear kx
   have kx := HO.out.cells 0 rfl
   go_wp2_with (first
    | ((with_reducible refine at_load 32 (.tmp 40) ?_); refine wpList_load_own HO.out rfl 32 (.tmp 40) rfl 0 _ 2 4 _ _ ([.slice A1 n1 c1, .slice B1 m1 bb1, .int .i64 fz1, .bool fl1]) _ rfl rfl rfl Tryz.underlying32 rfl (by kernel_rfl) ?_))
   refine (Zs.ref (r := (E1, J1, ec)) (keeps_dk d E1) HZ.out (fun F hr hF => by rw [← HJO.out]; exact ropen_c F _ _ _ (Rj.rf hr) hF HS1.out.sz (by have := HS1.out.few; omega) (by have := HS1.out.top; omega))).mono ?_
   rintro e w5 ⟨v', rfl, hb5, hz⟩
   replace HO := hide (HO.out.step hb5)
   (try dsimp only at hz)
   (try dsimp only)
   obtain ⟨A5, n5, c5, B5, m5, bb5, q5, rfl, Ar5, nr5, cr5, rfl, _⟩ := hz.form
   have HZ := hide hz
   clear hz hb5
   unfold rjc at HZ ⊢
   generalize (E1).fuse = fz5 at HZ ⊢
   generalize (E1).failed = fl5 at HZ ⊢
   generalize ((J1).turn : Int) = zt5 at HZ ⊢
   generalize (J1).state = st5 at HZ ⊢
   generalize ((J1).used : Int) = zu5 at HZ ⊢
   generalize (J1).broken = br5 at HZ ⊢
   go_wp2_with (first
    | ((with_reducible refine at_alloc 51 ?_); refine wpList_alloc_own_n HO.out rfl 51 rfl zjr rjr_info ?_; intro WA b5 hb hO hbel; replace HZ := hide (HZ.out.push (keeps_dk d E1) hb hbel (hO.blk 1 rfl).lt); replace HO := hide hO; clear hO hbel hb)
    | ((with_reducible refine at_store 51 (.tmp 5) ?_); refine wpList_store_own_t HO.out rfl 51 (.tmp 5) (.tmp 42) rfl 1 _ 0 _ _ ([.slice A5 n5 c5, .slice B5 m5 bb5, .int .i64 fz5, .bool fl5, .int .i64 zt5, sv st5, .slice Ar5 nr5 cr5, .int .i64 zu5, .bool br5]) ([.slice A5 n5 c5, .slice B5 m5 bb5, .int .i64 fz5, .bool fl5, .int .i64 zt5, sv st5, .slice Ar5 nr5 cr5, .int .i64 zu5, .bool br5]) rfl (.agg ([.slice A5 n5 c5, .slice B5 m5 bb5, .int .i64 fz5, .bool fl5, .int .i64 zt5, sv st5, .slice Ar5 nr5 cr5, .int .i64 zu5, .bool br5] : List Value).toArray) rfl rfl (fits_agg _) (by simp [zjr]) rfl (by kernel_rfl) rfl ?_; intro WA hO _ ht; replace HZ := hide (HZ.out.put (keeps_dk d E1) (by simp) ht); replace HO := hide hO; clear hO ht; have kx := HO.out.cells 0 rfl))
   refine (Zs.turn (P' := fun W G => Disk W d G (dCrash E1 [])) (R := fun e => e = .returned (.tuple #[])) HZ.out (fun G hG => (crash_cR d G E1 (.slice none 0 0) [] _ hG (is_nil _) (by simp)).mono fun e w' h => turns_does h)).mono ?_
   rintro e w6 ⟨rfl, hz, hst⟩
   replace HO := hide (hst [(x, 55, [.pointer (some ⟨d, 0, none⟩), .pointer (some ⟨g, 0, none⟩), .slice A1 n1 c1, .slice B1 m1 bb1, .int .i64 fz1, .bool fl1, .int .i64 zt, sv st, .slice Ar nr cr, .int .i64 zu, .bool br]), (b5, 51, [.slice A5 n5 c5, .slice B5 m5 bb5, .int .i64 fz5, .bool fl5, .int .i64 zt5, sv st5, .slice Ar5 nr5 cr5, .int .i64 zu5, .bool br5])] (by simp) HO.out)
   replace HZ := hide hz
   clear hst hz
   try clear kx
   have kx := HO.out.cells 0 rfl
   go_wp2_with (first
    | ((with_reducible refine at_load 32 (.tmp 54) ?_); refine wpList_load_own HO.out rfl 32 (.tmp 54) rfl 1 _ 0 4 _ _ ([.slice A5 n5 c5, .slice B5 m5 bb5, .int .i64 fz5, .bool fl5]) _ rfl rfl rfl Tryz.underlying32 rfl (by kernel_rfl) ?_))
   refine (Zs.refD (keeps_dk d (dCrash E1 [])) HZ.out (fun F hr hF => crash_r F _ E1 (.slice none 0 0) [] _ hr (is_nil _) hF (by have := HSE.out.few; omega) (by have := HSE.out.top; omega))).mono ?_
   rintro e w7 ⟨A6, n6, c6, B6, m6, bb6, fz6, fl6, rfl, hb7, hz⟩
   replace HO := hide (HO.out.step hb7)
   replace HZ := hide hz
   unfold rjc at HZ
   clear hz hb7
   go_wp2_with (first
    | ((with_reducible refine at_store 32 (.tmp 57) ?_); refine wpList_store_own_t HO.out rfl 32 (.tmp 57) (.tmp 56) rfl 1 _ 0 _ _ ([.slice A6 n6 c6, .slice B6 m6 bb6, .int .i64 fz6, .bool fl6]) ([.slice A6 n6 c6, .slice B6 m6 bb6, .int .i64 fz6, .bool fl6, .int .i64 zt5, sv st5, .slice Ar5 nr5 cr5, .int .i64 zu5, .bool br5]) rfl (.agg ([.slice A6 n6 c6, .slice B6 m6 bb6, .int .i64 fz6, .bool fl6] : List Value).toArray) rfl rfl (fits_agg _) (by simp [zjr]) rfl (by kernel_rfl) rfl ?_; intro WA hO _ ht; replace HZ := hide (HZ.out.put (keeps_dk d (dCrash E1 [])) (by simp) ht); replace HO := hide hO; clear hO ht; have kx := HO.out.cells 0 rfl))
   have HS3 := hide (sound_crash HSE.out []).1
   have hjo3 : jOpen (dCrash E1 []) = (J2, D2, 0) := by have h1 := HRE.out; rw [HR1.out, if_neg HEC.out] at h1; exact h1
   have HJ3 := hide hjo3
   clear hjo3
   refine (Zs.turnE (ι := Nat) (P' := fun g' => fun W G => Jn W g' d G D2 J2) (R := fun g' e => e = .returned (.tuple #[.pointer (some ⟨g', 0, none⟩), .int .i64 0])) HZ.out (fun G hG => ?_)).mono ?_
   ·refine (jopen_c d G (dCrash E1 []) _ hG (by have := HS3.out.few; omega) (by have := HS3.out.top; omega)).mono fun e w' h => ?_
    rw [HJ3.out] at h
    obtain ⟨g', he, ht⟩ := (turns_open h).1 rfl
    exact ⟨g', he, ht⟩
   rintro e w8 ⟨g2, rfl, hz, hst⟩
   replace HO := hide (hst [(x, 55, [.pointer (some ⟨d, 0, none⟩), .pointer (some ⟨g, 0, none⟩), .slice A1 n1 c1, .slice B1 m1 bb1, .int .i64 fz1, .bool fl1, .int .i64 zt, sv st, .slice Ar nr cr, .int .i64 zu, .bool br]), (b5, 51, [.slice A6 n6 c6, .slice B6 m6 bb6, .int .i64 fz6, .bool fl6, .int .i64 zt5, sv st5, .slice Ar5 nr5 cr5, .int .i64 zu5, .bool br5])] (by simp) HO.out)
   replace HZ : Hid (Zs (fun W G => Jn W g2 d G D2 J2) _ _ _ _ _ _ _ _) := hide hz
   clear hst hz kx
   replace HS1 := HS3
   replace HJO : Hid (jO (dCrash E1 []) = (D2, J2, 0)) := hide (by unfold jO; rw [HJ3.out])
   go_wp2_with (first
    | ((with_reducible refine at_load 32 (.tmp 67) ?_); refine wpList_load_own HO.out rfl 32 (.tmp 67) rfl 1 _ 0 4 _ _ ([.slice A6 n6 c6, .slice B6 m6 bb6, .int .i64 fz6, .bool fl6]) _ rfl rfl rfl Tryz.underlying32 rfl (by kernel_rfl) ?_))
   refine (Zs.ref (r := (D2, J2, 0)) (keeps_jn g2 d D2 J2) HZ.out (fun F hr hF => by rw [← HJO.out]; exact ropen_c F _ _ _ (Rj.rf hr) hF HS1.out.sz (by have := HS1.out.few; omega) (by have := HS1.out.top; omega))).mono ?_
   rintro e w5 ⟨v', rfl, hb5, hz⟩
   replace HO := hide (HO.out.step hb5)
   (try dsimp only at hz)
   (try dsimp only)
   obtain ⟨A7, n7, c7, B7, m7, bb7, q7, rfl, Ar7, nr7, cr7, rfl, _⟩ := hz.form
   have HZ := hide hz
   clear hz hb5
   unfold rjc at HZ ⊢
   generalize (D2).fuse = fz7 at HZ ⊢
   generalize (D2).failed = fl7 at HZ ⊢
   generalize ((J2).turn : Int) = zt7 at HZ ⊢
   generalize (J2).state = st7 at HZ ⊢
   generalize ((J2).used : Int) = zu7 at HZ ⊢
   generalize (J2).broken = br7 at HZ ⊢
   go_wp2_with (first
    | ((with_reducible refine at_store 51 (.tmp 5) ?_); refine wpList_store_own_t HO.out rfl 51 (.tmp 5) (.tmp 70) rfl 1 _ 0 _ _ ([.slice A7 n7 c7, .slice B7 m7 bb7, .int .i64 fz7, .bool fl7, .int .i64 zt7, sv st7, .slice Ar7 nr7 cr7, .int .i64 zu7, .bool br7]) ([.slice A7 n7 c7, .slice B7 m7 bb7, .int .i64 fz7, .bool fl7, .int .i64 zt7, sv st7, .slice Ar7 nr7 cr7, .int .i64 zu7, .bool br7]) rfl (.agg ([.slice A7 n7 c7, .slice B7 m7 bb7, .int .i64 fz7, .bool fl7, .int .i64 zt7, sv st7, .slice Ar7 nr7 cr7, .int .i64 zu7, .bool br7] : List Value).toArray) rfl rfl (fits_agg _) (by simp [zjr]) rfl (by kernel_rfl) rfl ?_; intro WA hO _ ht; replace HZ := hide (HZ.out.put (keeps_jn g2 d D2 J2) (by simp) ht); replace HO := hide hO; clear hO ht; refine Hid.out ?_))
   refine hide ?_
   go_wp2_with fail
   refine wp_region_held_drew (S := fun W => (∀ j, W.cell? ⟨b5, j, none⟩ = ([.slice A7 n7 c7, .slice B7 m7 bb7, .int .i64 fz7, .bool fl7, .int .i64 zt7, sv st7, .slice Ar7 nr7 cr7, .int .i64 zu7, .bool br7] : List Value)[j]?)) (by kernel_rfl) (HO.out.drew.cells 1 rfl) (fun hS0 => ?_)
   replace HO := hide HO.out.drew
   replace HZ := hide (HZ.out.step (keeps_jn g2 d D2 J2) (below_drew _))
   refine tk 0 ?_
   refine tk 1 ?_
   refine tk 2 ?_
   refine ty 3 (.agg ([.slice A7 n7 c7, .slice B7 m7 bb7, .int .i64 fz7, .bool fl7, .int .i64 zt7, sv st7, .slice Ar7 nr7 cr7, .int .i64 zu7, .bool br7] : List Value).toArray) rfl (yieldsIf_load rfl 51 (.tmp 5) rfl b5 0 9 51 ([.slice A7 n7 c7, .slice B7 m7 bb7, .int .i64 fz7, .bool fl7, .int .i64 zt7, sv st7, .slice Ar7 nr7 cr7, .int .i64 zu7, .bool br7]) ([.slice A7 n7 c7, .slice B7 m7 bb7, .int .i64 fz7, .bool fl7, .int .i64 zt7, sv st7, .slice Ar7 nr7 cr7, .int .i64 zu7, .bool br7]) _ (fun w hw => hw) (take_all rfl) rfl Tryz.underlying51 rfl (by kernel_rfl)) ?_
   refine tk 4 ?_
   refine tk 5 ?_
   refine tr1 6 fun K hK => ?_
   refine step_store_own_t HO.out rfl 46 (.tmp 77) (.tmp 74) rfl 0 _ 1 _ _ ([.pointer (some ⟨g2, 0, none⟩)]) ([.pointer (some ⟨d, 0, none⟩), .pointer (some ⟨g2, 0, none⟩), .slice A1 n1 c1, .slice B1 m1 bb1, .int .i64 fz1, .bool fl1, .int .i64 zt, sv st, .slice Ar nr cr, .int .i64 zu, .bool br]) rfl (.pointer (some ⟨g2, 0, none⟩)) rfl rfl (fits_one rfl) (by simp) rfl (by kernel_rfl) rfl ?_
   intro WA hO _ ht
   replace HZ := hide (HZ.out.put (keeps_jn g2 d D2 J2) (by simp) ht)
   replace HO := hide hO
   clear hO ht
   refine hK.out _ _ (HO.out.cells 1 rfl) (fun hS6 => ?_)
   clear hK K
   try simp only [Act.put, qa, qb, qc, qd, qe, qf]
   refine tk 7 ?_
   refine tk 8 ?_
   refine tr1 9 fun K hK => ?_
   refine step_store_own_t HO.out rfl 51 (.tmp 79) (.tmp 75) rfl 0 _ 2 _ _ ([.slice A7 n7 c7, .slice B7 m7 bb7, .int .i64 fz7, .bool fl7, .int .i64 zt7, sv st7, .slice Ar7 nr7 cr7, .int .i64 zu7, .bool br7]) ([.pointer (some ⟨d, 0, none⟩), .pointer (some ⟨g2, 0, none⟩), .slice A7 n7 c7, .slice B7 m7 bb7, .int .i64 fz7, .bool fl7, .int .i64 zt7, sv st7, .slice Ar7 nr7 cr7, .int .i64 zu7, .bool br7]) rfl (.agg ([.slice A7 n7 c7, .slice B7 m7 bb7, .int .i64 fz7, .bool fl7, .int .i64 zt7, sv st7, .slice Ar7 nr7 cr7, .int .i64 zu7, .bool br7] : List Value).toArray) rfl rfl (fits_agg _) (by simp) rfl (by kernel_rfl) rfl ?_
   intro WA hO _ ht
   replace HZ := hide (HZ.out.put (keeps_jn g2 d D2 J2) (by simp) ht)
   replace HO := hide hO
   clear hO ht
   refine hK.out _ _ (HO.out.cells 1 rfl) (fun hS9 => ?_)
   clear hK K
   try simp only [Act.put, qa, qb, qc, qd, qe, qf]
   refine wpAnyH_done (by kernel_rfl) ?_ _
   clear hS0
   go_wp2_with fail
   go_ret
   exact ⟨rfl, g2, Ww.of (HO.out.sub (M := [(x, 55, [.pointer (some ⟨d, 0, none⟩), .pointer (some ⟨g2, 0, none⟩), .slice A7 n7 c7, .slice B7 m7 bb7, .int .i64 fz7, .bool fl7, .int .i64 zt7, sv st7, .slice Ar7 nr7 cr7, .int .i64 zu7, .bool br7])]) (by simp)) (Zs.drop (N' := [b5]) HZ.out)⟩
 | false =>
  have hR1 : reopen D = if (jOpen D).2.2 = 0 then jOpen D else jOpen (dCrash (jOpen D).2.1 []) := by unfold reopen; rw [hfl]; rfl
  have HF1 := hide hfl
  have HS1 := HS
  clear hs hfl
  replace HZ := hide HZ.out.disk
  obtain ⟨r1, hjo⟩ : ∃ r, jOpen (D) = r := ⟨_, rfl⟩
  obtain ⟨J1, E1, ec⟩ := r1
  have HJO : Hid (jO (D) = (E1, J1, ec)) := hide (by unfold jO; rw [hjo])
  have HJ1 := hide hjo
  rw [hjo] at hR1
  have HSE : Hid (Sound E1) := hide (by have := (sound_open HS1.out HF1.out).1; rwa [hjo] at this)
  clear hjo
  have HR1 := hide hR1
  clear hR1
  try clear kx
  have kx := HO.out.cells 0 rfl
  go_wp2_with fail
  refine (Zs.turnE (ι := Option Nat) (P' := fun i => match i with | some g' => fun W G => Jn W g' d G E1 J1 | none => fun W G => Disk W d G E1) (R := fun i e => match i with | some g' => ec = 0 ∧ e = .returned (.tuple #[.pointer (some ⟨g', 0, none⟩), .int .i64 0]) | none => ec ≠ 0 ∧ e = .returned (.tuple #[.pointer none, .int .i64 ec])) HZ.out (fun G hG => ?_)).mono ?_
  ·refine (jopen_c d G (D) _ hG (by have := HS1.out.few; omega) (by have := HS1.out.top; omega)).mono fun e w' h => ?_
   rw [HJ1.out] at h
   by_cases hec : ec = 0
   ·obtain ⟨g', he, ht⟩ := (turns_open h).1 hec
    (try dsimp only at he)
    exact ⟨some g', ⟨hec, he⟩, ht⟩
   ·obtain ⟨he, ht⟩ := (turns_open h).2 hec
    exact ⟨none, ⟨hec, he⟩, ht⟩
  rintro e w4 ⟨i, hR, hz, hst⟩
  replace HO := hide (hst [(x, 55, [.pointer (some ⟨d, 0, none⟩), .pointer (some ⟨g, 0, none⟩), .slice A n c, .slice B m bb, .int .i64 fz, .bool fl, .int .i64 zt, sv st, .slice Ar nr cr, .int .i64 zu, .bool br])] (by simp) HO.out)
  clear hst kx
  cases i with
  | some g2 =>
   obtain ⟨hec, rfl⟩ := hR
   subst hec
   replace HR1 : Hid ((J1, E1, (0 : Int)) = (J2, D2, 0)) := hide (by have h1 := HRE.out; rw [HR1.out, if_pos rfl] at h1; exact h1)
   obtain ⟨rfl, rfl⟩ : J1 = J2 ∧ E1 = D2 := by have h1 := HR1.out; injection h1 with h1 h2; injection h2 with h2 _; exact ⟨h1, h2⟩
   replace HZ : Hid (Zs (fun W G => Jn W g2 d G E1 J1) _ _ _ _ _ _ _ _) := hide hz
   clear hz
   try clear kx
   have kx := HO.out.cells 0 rfl
   go_wp2_with (first
    | ((with_reducible refine at_load 32 (.tmp 40) ?_); refine wpList_load_own HO.out rfl 32 (.tmp 40) rfl 0 _ 2 4 _ _ ([.slice A n c, .slice B m bb, .int .i64 fz, .bool fl]) _ rfl rfl rfl Tryz.underlying32 rfl (by kernel_rfl) ?_))
   refine (Zs.ref (r := (E1, J1, 0)) (keeps_jn g2 d E1 J1) HZ.out (fun F hr hF => by rw [← HJO.out]; exact ropen_c F _ _ _ (Rj.rf hr) hF HS1.out.sz (by have := HS1.out.few; omega) (by have := HS1.out.top; omega))).mono ?_
   rintro e w5 ⟨v', rfl, hb5, hz⟩
   replace HO := hide (HO.out.step hb5)
   (try dsimp only at hz)
   (try dsimp only)
   obtain ⟨A5, n5, c5, B5, m5, bb5, q5, rfl, Ar5, nr5, cr5, rfl, _⟩ := hz.form
   have HZ := hide hz
   clear hz hb5
   unfold rjc at HZ ⊢
   generalize (E1).fuse = fz5 at HZ ⊢
   generalize (E1).failed = fl5 at HZ ⊢
   generalize ((J1).turn : Int) = zt5 at HZ ⊢
   generalize (J1).state = st5 at HZ ⊢
   generalize ((J1).used : Int) = zu5 at HZ ⊢
   generalize (J1).broken = br5 at HZ ⊢
   go_wp2_with (first
    | ((with_reducible refine at_alloc 51 ?_); refine wpList_alloc_own_n HO.out rfl 51 rfl zjr rjr_info ?_; intro WA b5 hb hO hbel; replace HZ := hide (HZ.out.push (keeps_jn g2 d E1 J1) hb hbel (hO.blk 1 rfl).lt); replace HO := hide hO; clear hO hbel hb)
    | ((with_reducible refine at_store 51 (.tmp 5) ?_); refine wpList_store_own_t HO.out rfl 51 (.tmp 5) (.tmp 42) rfl 1 _ 0 _ _ ([.slice A5 n5 c5, .slice B5 m5 bb5, .int .i64 fz5, .bool fl5, .int .i64 zt5, sv st5, .slice Ar5 nr5 cr5, .int .i64 zu5, .bool br5]) ([.slice A5 n5 c5, .slice B5 m5 bb5, .int .i64 fz5, .bool fl5, .int .i64 zt5, sv st5, .slice Ar5 nr5 cr5, .int .i64 zu5, .bool br5]) rfl (.agg ([.slice A5 n5 c5, .slice B5 m5 bb5, .int .i64 fz5, .bool fl5, .int .i64 zt5, sv st5, .slice Ar5 nr5 cr5, .int .i64 zu5, .bool br5] : List Value).toArray) rfl rfl (fits_agg _) (by simp [zjr]) rfl (by kernel_rfl) rfl ?_; intro WA hO _ ht; replace HZ := hide (HZ.out.put (keeps_jn g2 d E1 J1) (by simp) ht); replace HO := hide hO; clear hO ht; refine Hid.out ?_))
   refine hide ?_
   go_wp2_with fail
   refine wp_region_held_drew (S := fun W => (∀ j, W.cell? ⟨b5, j, none⟩ = ([.slice A5 n5 c5, .slice B5 m5 bb5, .int .i64 fz5, .bool fl5, .int .i64 zt5, sv st5, .slice Ar5 nr5 cr5, .int .i64 zu5, .bool br5] : List Value)[j]?)) (by kernel_rfl) (HO.out.drew.cells 1 rfl) (fun hS0 => ?_)
   replace HO := hide HO.out.drew
   replace HZ := hide (HZ.out.step (keeps_jn g2 d E1 J1) (below_drew _))
   refine tk 0 ?_
   refine tk 1 ?_
   refine tk 2 ?_
   refine ty 3 (.agg ([.slice A5 n5 c5, .slice B5 m5 bb5, .int .i64 fz5, .bool fl5, .int .i64 zt5, sv st5, .slice Ar5 nr5 cr5, .int .i64 zu5, .bool br5] : List Value).toArray) rfl (yieldsIf_load rfl 51 (.tmp 5) rfl b5 0 9 51 ([.slice A5 n5 c5, .slice B5 m5 bb5, .int .i64 fz5, .bool fl5, .int .i64 zt5, sv st5, .slice Ar5 nr5 cr5, .int .i64 zu5, .bool br5]) ([.slice A5 n5 c5, .slice B5 m5 bb5, .int .i64 fz5, .bool fl5, .int .i64 zt5, sv st5, .slice Ar5 nr5 cr5, .int .i64 zu5, .bool br5]) _ (fun w hw => hw) (take_all rfl) rfl Tryz.underlying51 rfl (by kernel_rfl)) ?_
   refine tk 4 ?_
   refine tk 5 ?_
   refine tr1 6 fun K hK => ?_
   refine step_store_own_t HO.out rfl 46 (.tmp 77) (.tmp 74) rfl 0 _ 1 _ _ ([.pointer (some ⟨g2, 0, none⟩)]) ([.pointer (some ⟨d, 0, none⟩), .pointer (some ⟨g2, 0, none⟩), .slice A n c, .slice B m bb, .int .i64 fz, .bool fl, .int .i64 zt, sv st, .slice Ar nr cr, .int .i64 zu, .bool br]) rfl (.pointer (some ⟨g2, 0, none⟩)) rfl rfl (fits_one rfl) (by simp) rfl (by kernel_rfl) rfl ?_
   intro WA hO _ ht
   replace HZ := hide (HZ.out.put (keeps_jn g2 d E1 J1) (by simp) ht)
   replace HO := hide hO
   clear hO ht
   refine hK.out _ _ (HO.out.cells 1 rfl) (fun hS6 => ?_)
   clear hK K
   try simp only [Act.put, qa, qb, qc, qd, qe, qf]
   refine tk 7 ?_
   refine tk 8 ?_
   refine tr1 9 fun K hK => ?_
   refine step_store_own_t HO.out rfl 51 (.tmp 79) (.tmp 75) rfl 0 _ 2 _ _ ([.slice A5 n5 c5, .slice B5 m5 bb5, .int .i64 fz5, .bool fl5, .int .i64 zt5, sv st5, .slice Ar5 nr5 cr5, .int .i64 zu5, .bool br5]) ([.pointer (some ⟨d, 0, none⟩), .pointer (some ⟨g2, 0, none⟩), .slice A5 n5 c5, .slice B5 m5 bb5, .int .i64 fz5, .bool fl5, .int .i64 zt5, sv st5, .slice Ar5 nr5 cr5, .int .i64 zu5, .bool br5]) rfl (.agg ([.slice A5 n5 c5, .slice B5 m5 bb5, .int .i64 fz5, .bool fl5, .int .i64 zt5, sv st5, .slice Ar5 nr5 cr5, .int .i64 zu5, .bool br5] : List Value).toArray) rfl rfl (fits_agg _) (by simp) rfl (by kernel_rfl) rfl ?_
   intro WA hO _ ht
   replace HZ := hide (HZ.out.put (keeps_jn g2 d E1 J1) (by simp) ht)
   replace HO := hide hO
   clear hO ht
   refine hK.out _ _ (HO.out.cells 1 rfl) (fun hS9 => ?_)
   clear hK K
   try simp only [Act.put, qa, qb, qc, qd, qe, qf]
   refine wpAnyH_done (by kernel_rfl) ?_ _
   clear hS0
   go_wp2_with fail
   go_ret
   exact ⟨rfl, g2, Ww.of (HO.out.sub (M := [(x, 55, [.pointer (some ⟨d, 0, none⟩), .pointer (some ⟨g2, 0, none⟩), .slice A5 n5 c5, .slice B5 m5 bb5, .int .i64 fz5, .bool fl5, .int .i64 zt5, sv st5, .slice Ar5 nr5 cr5, .int .i64 zu5, .bool br5])]) (by simp)) (Zs.drop (N' := [b5]) HZ.out)⟩
  | none =>
   obtain ⟨hec, rfl⟩ := hR
   have hd1 : (ec != 0) = true := by simpa using hec
   have HEC := hide hec
   clear hec
   replace HZ : Hid (Zs (fun W G => Disk W d G E1) _ _ _ _ _ _ _ _) := hide hz
   clear hz
   try clear kx
   have kx := HO.out.cells 0 rfl
   go_wp2_with (first
    | ((with_reducible refine at_load 32 (.tmp 40) ?_); refine wpList_load_own HO.out rfl 32 (.tmp 40) rfl 0 _ 2 4 _ _ ([.slice A n c, .slice B m bb, .int .i64 fz, .bool fl]) _ rfl rfl rfl Tryz.underlying32 rfl (by kernel_rfl) ?_))
   refine (Zs.ref (r := (E1, J1, ec)) (keeps_dk d E1) HZ.out (fun F hr hF => by rw [← HJO.out]; exact ropen_c F _ _ _ (Rj.rf hr) hF HS1.out.sz (by have := HS1.out.few; omega) (by have := HS1.out.top; omega))).mono ?_
   rintro e w5 ⟨v', rfl, hb5, hz⟩
   replace HO := hide (HO.out.step hb5)
   (try dsimp only at hz)
   (try dsimp only)
   obtain ⟨A5, n5, c5, B5, m5, bb5, q5, rfl, Ar5, nr5, cr5, rfl, _⟩ := hz.form
   have HZ := hide hz
   clear hz hb5
   unfold rjc at HZ ⊢
   generalize (E1).fuse = fz5 at HZ ⊢
   generalize (E1).failed = fl5 at HZ ⊢
   generalize ((J1).turn : Int) = zt5 at HZ ⊢
   generalize (J1).state = st5 at HZ ⊢
   generalize ((J1).used : Int) = zu5 at HZ ⊢
   generalize (J1).broken = br5 at HZ ⊢
   go_wp2_with (first
    | ((with_reducible refine at_alloc 51 ?_); refine wpList_alloc_own_n HO.out rfl 51 rfl zjr rjr_info ?_; intro WA b5 hb hO hbel; replace HZ := hide (HZ.out.push (keeps_dk d E1) hb hbel (hO.blk 1 rfl).lt); replace HO := hide hO; clear hO hbel hb)
    | ((with_reducible refine at_store 51 (.tmp 5) ?_); refine wpList_store_own_t HO.out rfl 51 (.tmp 5) (.tmp 42) rfl 1 _ 0 _ _ ([.slice A5 n5 c5, .slice B5 m5 bb5, .int .i64 fz5, .bool fl5, .int .i64 zt5, sv st5, .slice Ar5 nr5 cr5, .int .i64 zu5, .bool br5]) ([.slice A5 n5 c5, .slice B5 m5 bb5, .int .i64 fz5, .bool fl5, .int .i64 zt5, sv st5, .slice Ar5 nr5 cr5, .int .i64 zu5, .bool br5]) rfl (.agg ([.slice A5 n5 c5, .slice B5 m5 bb5, .int .i64 fz5, .bool fl5, .int .i64 zt5, sv st5, .slice Ar5 nr5 cr5, .int .i64 zu5, .bool br5] : List Value).toArray) rfl rfl (fits_agg _) (by simp [zjr]) rfl (by kernel_rfl) rfl ?_; intro WA hO _ ht; replace HZ := hide (HZ.out.put (keeps_dk d E1) (by simp) ht); replace HO := hide hO; clear hO ht; have kx := HO.out.cells 0 rfl))
   refine (Zs.turn (P' := fun W G => Disk W d G (dCrash E1 [])) (R := fun e => e = .returned (.tuple #[])) HZ.out (fun G hG => (crash_cR d G E1 (.slice none 0 0) [] _ hG (is_nil _) (by simp)).mono fun e w' h => turns_does h)).mono ?_
   rintro e w6 ⟨rfl, hz, hst⟩
   replace HO := hide (hst [(x, 55, [.pointer (some ⟨d, 0, none⟩), .pointer (some ⟨g, 0, none⟩), .slice A n c, .slice B m bb, .int .i64 fz, .bool fl, .int .i64 zt, sv st, .slice Ar nr cr, .int .i64 zu, .bool br]), (b5, 51, [.slice A5 n5 c5, .slice B5 m5 bb5, .int .i64 fz5, .bool fl5, .int .i64 zt5, sv st5, .slice Ar5 nr5 cr5, .int .i64 zu5, .bool br5])] (by simp) HO.out)
   replace HZ := hide hz
   clear hst hz
   try clear kx
   have kx := HO.out.cells 0 rfl
   go_wp2_with (first
    | ((with_reducible refine at_load 32 (.tmp 54) ?_); refine wpList_load_own HO.out rfl 32 (.tmp 54) rfl 1 _ 0 4 _ _ ([.slice A5 n5 c5, .slice B5 m5 bb5, .int .i64 fz5, .bool fl5]) _ rfl rfl rfl Tryz.underlying32 rfl (by kernel_rfl) ?_))
   refine (Zs.refD (keeps_dk d (dCrash E1 [])) HZ.out (fun F hr hF => crash_r F _ E1 (.slice none 0 0) [] _ hr (is_nil _) hF (by have := HSE.out.few; omega) (by have := HSE.out.top; omega))).mono ?_
   rintro e w7 ⟨A6, n6, c6, B6, m6, bb6, fz6, fl6, rfl, hb7, hz⟩
   replace HO := hide (HO.out.step hb7)
   replace HZ := hide hz
   unfold rjc at HZ
   clear hz hb7
   go_wp2_with (first
    | ((with_reducible refine at_store 32 (.tmp 57) ?_); refine wpList_store_own_t HO.out rfl 32 (.tmp 57) (.tmp 56) rfl 1 _ 0 _ _ ([.slice A6 n6 c6, .slice B6 m6 bb6, .int .i64 fz6, .bool fl6]) ([.slice A6 n6 c6, .slice B6 m6 bb6, .int .i64 fz6, .bool fl6, .int .i64 zt5, sv st5, .slice Ar5 nr5 cr5, .int .i64 zu5, .bool br5]) rfl (.agg ([.slice A6 n6 c6, .slice B6 m6 bb6, .int .i64 fz6, .bool fl6] : List Value).toArray) rfl rfl (fits_agg _) (by simp [zjr]) rfl (by kernel_rfl) rfl ?_; intro WA hO _ ht; replace HZ := hide (HZ.out.put (keeps_dk d (dCrash E1 [])) (by simp) ht); replace HO := hide hO; clear hO ht; have kx := HO.out.cells 0 rfl))
   have HS3 := hide (sound_crash HSE.out []).1
   have hjo3 : jOpen (dCrash E1 []) = (J2, D2, 0) := by have h1 := HRE.out; rw [HR1.out, if_neg HEC.out] at h1; exact h1
   have HJ3 := hide hjo3
   clear hjo3
   refine (Zs.turnE (ι := Nat) (P' := fun g' => fun W G => Jn W g' d G D2 J2) (R := fun g' e => e = .returned (.tuple #[.pointer (some ⟨g', 0, none⟩), .int .i64 0])) HZ.out (fun G hG => ?_)).mono ?_
   ·refine (jopen_c d G (dCrash E1 []) _ hG (by have := HS3.out.few; omega) (by have := HS3.out.top; omega)).mono fun e w' h => ?_
    rw [HJ3.out] at h
    obtain ⟨g', he, ht⟩ := (turns_open h).1 rfl
    exact ⟨g', he, ht⟩
   rintro e w8 ⟨g2, rfl, hz, hst⟩
   replace HO := hide (hst [(x, 55, [.pointer (some ⟨d, 0, none⟩), .pointer (some ⟨g, 0, none⟩), .slice A n c, .slice B m bb, .int .i64 fz, .bool fl, .int .i64 zt, sv st, .slice Ar nr cr, .int .i64 zu, .bool br]), (b5, 51, [.slice A6 n6 c6, .slice B6 m6 bb6, .int .i64 fz6, .bool fl6, .int .i64 zt5, sv st5, .slice Ar5 nr5 cr5, .int .i64 zu5, .bool br5])] (by simp) HO.out)
   replace HZ : Hid (Zs (fun W G => Jn W g2 d G D2 J2) _ _ _ _ _ _ _ _) := hide hz
   clear hst hz kx
   replace HS1 := HS3
   replace HJO : Hid (jO (dCrash E1 []) = (D2, J2, 0)) := hide (by unfold jO; rw [HJ3.out])
   go_wp2_with (first
    | ((with_reducible refine at_load 32 (.tmp 67) ?_); refine wpList_load_own HO.out rfl 32 (.tmp 67) rfl 1 _ 0 4 _ _ ([.slice A6 n6 c6, .slice B6 m6 bb6, .int .i64 fz6, .bool fl6]) _ rfl rfl rfl Tryz.underlying32 rfl (by kernel_rfl) ?_))
   refine (Zs.ref (r := (D2, J2, 0)) (keeps_jn g2 d D2 J2) HZ.out (fun F hr hF => by rw [← HJO.out]; exact ropen_c F _ _ _ (Rj.rf hr) hF HS1.out.sz (by have := HS1.out.few; omega) (by have := HS1.out.top; omega))).mono ?_
   rintro e w5 ⟨v', rfl, hb5, hz⟩
   replace HO := hide (HO.out.step hb5)
   (try dsimp only at hz)
   (try dsimp only)
   obtain ⟨A7, n7, c7, B7, m7, bb7, q7, rfl, Ar7, nr7, cr7, rfl, _⟩ := hz.form
   have HZ := hide hz
   clear hz hb5
   unfold rjc at HZ ⊢
   generalize (D2).fuse = fz7 at HZ ⊢
   generalize (D2).failed = fl7 at HZ ⊢
   generalize ((J2).turn : Int) = zt7 at HZ ⊢
   generalize (J2).state = st7 at HZ ⊢
   generalize ((J2).used : Int) = zu7 at HZ ⊢
   generalize (J2).broken = br7 at HZ ⊢
   go_wp2_with (first
    | ((with_reducible refine at_store 51 (.tmp 5) ?_); refine wpList_store_own_t HO.out rfl 51 (.tmp 5) (.tmp 70) rfl 1 _ 0 _ _ ([.slice A7 n7 c7, .slice B7 m7 bb7, .int .i64 fz7, .bool fl7, .int .i64 zt7, sv st7, .slice Ar7 nr7 cr7, .int .i64 zu7, .bool br7]) ([.slice A7 n7 c7, .slice B7 m7 bb7, .int .i64 fz7, .bool fl7, .int .i64 zt7, sv st7, .slice Ar7 nr7 cr7, .int .i64 zu7, .bool br7]) rfl (.agg ([.slice A7 n7 c7, .slice B7 m7 bb7, .int .i64 fz7, .bool fl7, .int .i64 zt7, sv st7, .slice Ar7 nr7 cr7, .int .i64 zu7, .bool br7] : List Value).toArray) rfl rfl (fits_agg _) (by simp [zjr]) rfl (by kernel_rfl) rfl ?_; intro WA hO _ ht; replace HZ := hide (HZ.out.put (keeps_jn g2 d D2 J2) (by simp) ht); replace HO := hide hO; clear hO ht; refine Hid.out ?_))
   refine hide ?_
   go_wp2_with fail
   refine wp_region_held_drew (S := fun W => (∀ j, W.cell? ⟨b5, j, none⟩ = ([.slice A7 n7 c7, .slice B7 m7 bb7, .int .i64 fz7, .bool fl7, .int .i64 zt7, sv st7, .slice Ar7 nr7 cr7, .int .i64 zu7, .bool br7] : List Value)[j]?)) (by kernel_rfl) (HO.out.drew.cells 1 rfl) (fun hS0 => ?_)
   replace HO := hide HO.out.drew
   replace HZ := hide (HZ.out.step (keeps_jn g2 d D2 J2) (below_drew _))
   refine tk 0 ?_
   refine tk 1 ?_
   refine tk 2 ?_
   refine ty 3 (.agg ([.slice A7 n7 c7, .slice B7 m7 bb7, .int .i64 fz7, .bool fl7, .int .i64 zt7, sv st7, .slice Ar7 nr7 cr7, .int .i64 zu7, .bool br7] : List Value).toArray) rfl (yieldsIf_load rfl 51 (.tmp 5) rfl b5 0 9 51 ([.slice A7 n7 c7, .slice B7 m7 bb7, .int .i64 fz7, .bool fl7, .int .i64 zt7, sv st7, .slice Ar7 nr7 cr7, .int .i64 zu7, .bool br7]) ([.slice A7 n7 c7, .slice B7 m7 bb7, .int .i64 fz7, .bool fl7, .int .i64 zt7, sv st7, .slice Ar7 nr7 cr7, .int .i64 zu7, .bool br7]) _ (fun w hw => hw) (take_all rfl) rfl Tryz.underlying51 rfl (by kernel_rfl)) ?_
   refine tk 4 ?_
   refine tk 5 ?_
   refine tr1 6 fun K hK => ?_
   refine step_store_own_t HO.out rfl 46 (.tmp 77) (.tmp 74) rfl 0 _ 1 _ _ ([.pointer (some ⟨g2, 0, none⟩)]) ([.pointer (some ⟨d, 0, none⟩), .pointer (some ⟨g2, 0, none⟩), .slice A n c, .slice B m bb, .int .i64 fz, .bool fl, .int .i64 zt, sv st, .slice Ar nr cr, .int .i64 zu, .bool br]) rfl (.pointer (some ⟨g2, 0, none⟩)) rfl rfl (fits_one rfl) (by simp) rfl (by kernel_rfl) rfl ?_
   intro WA hO _ ht
   replace HZ := hide (HZ.out.put (keeps_jn g2 d D2 J2) (by simp) ht)
   replace HO := hide hO
   clear hO ht
   refine hK.out _ _ (HO.out.cells 1 rfl) (fun hS6 => ?_)
   clear hK K
   try simp only [Act.put, qa, qb, qc, qd, qe, qf]
   refine tk 7 ?_
   refine tk 8 ?_
   refine tr1 9 fun K hK => ?_
   refine step_store_own_t HO.out rfl 51 (.tmp 79) (.tmp 75) rfl 0 _ 2 _ _ ([.slice A7 n7 c7, .slice B7 m7 bb7, .int .i64 fz7, .bool fl7, .int .i64 zt7, sv st7, .slice Ar7 nr7 cr7, .int .i64 zu7, .bool br7]) ([.pointer (some ⟨d, 0, none⟩), .pointer (some ⟨g2, 0, none⟩), .slice A7 n7 c7, .slice B7 m7 bb7, .int .i64 fz7, .bool fl7, .int .i64 zt7, sv st7, .slice Ar7 nr7 cr7, .int .i64 zu7, .bool br7]) rfl (.agg ([.slice A7 n7 c7, .slice B7 m7 bb7, .int .i64 fz7, .bool fl7, .int .i64 zt7, sv st7, .slice Ar7 nr7 cr7, .int .i64 zu7, .bool br7] : List Value).toArray) rfl rfl (fits_agg _) (by simp) rfl (by kernel_rfl) rfl ?_
   intro WA hO _ ht
   replace HZ := hide (HZ.out.put (keeps_jn g2 d D2 J2) (by simp) ht)
   replace HO := hide hO
   clear hO ht
   refine hK.out _ _ (HO.out.cells 1 rfl) (fun hS9 => ?_)
   clear hK K
   try simp only [Act.put, qa, qb, qc, qd, qe, qf]
   refine wpAnyH_done (by kernel_rfl) ?_ _
   clear hS0
   go_wp2_with fail
   go_ret
   exact ⟨rfl, g2, Ww.of (HO.out.sub (M := [(x, 55, [.pointer (some ⟨d, 0, none⟩), .pointer (some ⟨g2, 0, none⟩), .slice A7 n7 c7, .slice B7 m7 bb7, .int .i64 fz7, .bool fl7, .int .i64 zt7, sv st7, .slice Ar7 nr7 cr7, .int .i64 zu7, .bool br7])]) (by simp)) (Zs.drop (N' := [b5]) HZ.out)⟩
end Go.Proofs.YtpadgkkeihhneaaGreat
