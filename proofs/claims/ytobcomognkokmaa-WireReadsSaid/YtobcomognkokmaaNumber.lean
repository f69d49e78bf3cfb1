/- AppendNumber. -/
import Derived.Test.YtobcomognkokmaaLen
namespace Go.Proofs.Ytobcomognkokmaa
open Go.ChangeShapes Go.WideShapes Go.ChangeAt Go.RowKit
set_option linter.unusedVariables false

/-- What AppendNumber's loop keeps. -/
def NumR (w : World) (base n : Nat) (r : List UInt8) (v0 : Value) (l : List UInt8) (v vi : Value) (wr : World) : Prop :=
  ∃ (j : Nat) (acc : List UInt8), j ≤ blen n ∧ vi = .int .i64 ((j : Int) - 1) ∧ Ow wr base v acc ∧ acc ++ dig j n = r ∧ w.grownBy wr v0.ownBlock ∧ (v.ownBlock = v0.ownBlock ∨ ∃ g, v.ownBlock = some g ∧ w.heap.size ≤ g) ∧ Ow wr base v0 l ∧ l.length ≤ acc.length

set_option maxHeartbeats 1000000 in
theorem appendNumber_c (base : Nat) (v : Value) (l : List UInt8) (n : Nat) (hn : n < 2 ^ 64) (w : World) (h : Ow w base v l) (hl : l.length ≤ 70368744177664) (hbase : base ≤ w.heap.size) :
    Calls Try.prog 11 #[v, .int .u64 n] w (Appends w base v l (enc n)) := by
  have HB := hide hbase
  have HN := hide hn
  have hk := blen_le 8 n (by omega)
  have hbl := bitLen_bytes n
  have hb64 : bitLen n ≤ 64 := by omega
  have hq : ((bitLen n : Int) + 7) / 8 = (blen n : Int) := by omega
  have HV : Hid (v.ownBlock ≠ some w.heap.size) := by
    unfold Hid; intro hv; have := (h.lt _ hv).2; omega
  obtain ⟨A, c, rfl, _, _⟩ := h.form
  have H := hide h
  have HL := hide hl
  have HL1 : Hid (l.length + [UInt8.ofNat (blen n)].length ≤ 140737488355328) := by unfold Hid; simp; omega
  clear h hl hbase hn hbl
  go_enter Try.func11, Try.ntmps11
  go_wp2_with fail
  refine (len64_c n _ HN.out).mono ?_
  rintro e w1 ⟨rfl, rfl⟩
  have HO : Hid ((#[.int .u8 (blen n : Int)] : Array Value).toList = ([UInt8.ofNat (blen n)]).map bv) := by
    unfold Hid; simp only [List.map_cons, List.map_nil, bv, u8]; rw [UInt8.toNat_ofNat', Nat.mod_eq_of_lt (by omega)]
  go_wp2_with (at_builtin; refine wpList_append_bk rfl _ _ rfl base rfl (H.out.alloc _) rfl (Ow.made (base := w1.heap.size) [UInt8.ofNat (blen n)] _ HO.out (Nat.le_refl _) (by simp [maxLen])).bs HL1.out (by have := HB.out; simp; omega) ?_; intro v1 w3 how hol hg hw)
  have hg1 := grown_pre hg HV.out
  have hv1 : v1.ownBlock = (Value.slice A l.length c).ownBlock ∨ ∃ g, v1.ownBlock = some g ∧ w1.heap.size ≤ g := by
    rcases hw with hw | hw
    · exact .inl hw
    · exact .inr ⟨_, hw, by simp⟩
  have hst : (l ++ [UInt8.ofNat (blen n)]) ++ dig (blen n) n = l ++ enc n := by simp [enc]
  clear hg hw hq hb64
  generalize hr : l ++ enc n = r at *
  have HR : Hid (r.length ≤ 70368744177673) := by unfold Hid; rw [← hr]; unfold enc; simp [dig_len]; have := HL.out; omega
  have HQ := hide hr
  clear hr
  generalize l.length = ln at *
  have HLL : Hid (l.length ≤ (l ++ [UInt8.ofNat (blen n)]).length) := by unfold Hid; simp
  go_loopw [0, 6] (fun v i wr => NumR w1 base n r (Value.slice A ln c) l v i wr) (fun _ i _ => (intOf i + 1).toNat)
  case atStart => exact ⟨blen n, _, Nat.le_refl _, rfl, how, hst, hg1, hv1, hol, HLL.out⟩
  case round =>
    clear how hg1 hv1 hst hol HLL
    obtain ⟨j, acc, hj, rfl, ho, he, hg, hv, hkl, hla⟩ := hrel
    obtain ⟨A', c', rfl, _, _⟩ := ho.form
    by_cases h0 : j = 0
    · subst h0
      have he2 : acc = r := by simpa [dig] using he
      subst he2
      have HO := hide ho
      have HG := hide hg
      have HKL := hide hkl
      have HV2 := hide hv
      clear ho hg hv he hkl hla
      go_wp2_with fail
      go_ret
      exact ⟨_, rfl, by rw [HQ.out]; exact HO.out, HKL.out, HG.out, HV2.out⟩
    · obtain ⟨i, rfl⟩ : ∃ i, j = i + 1 := ⟨j - 1, by omega⟩
      rw [dig_succ] at he
      have hi : ((i + 1 : Nat) : Int) - 1 = (i : Int) := by omega
      rw [hi]
      have hi8 : i < 8 := by omega
      have HO := hide ho
      have HG := hide hg
      have HE := hide he
      have HV2 := hide hv
      have HKL := hide hkl
      have HLA := hide hla
      clear ho hg he hv hkl hla
      have HO2 : Hid ((#[.int .u8 ((n : Int) / 2 ^ (8 * i) % 256)] : Array Value).toList = ([UInt8.ofNat (n / 256 ^ i % 256)]).map bv) := by
        unfold Hid; simp only [List.map_cons, List.map_nil, bv]
        rw [← byte_mod, show 256 ^ i = 2 ^ (8 * i) from by rw [Nat.pow_mul]]
        simp
      have HL2 : Hid (acc.length + [UInt8.ofNat (n / 256 ^ i % 256)].length ≤ 140737488355328) := by
        have h1 := congrArg List.length HE.out
        have h2 := HR.out
        simp only [List.length_append, List.length_cons] at h1
        unfold Hid; simp only [List.length_cons, List.length_nil]; omega
      have HS := hide HG.out.size
      go_wp2_with (at_builtin; refine wpList_append_bk rfl _ _ rfl base rfl (HO.out.alloc _) rfl (Ow.made (base := wr.heap.size) [UInt8.ofNat (n / 256 ^ i % 256)] _ HO2.out (Nat.le_refl _) (by simp [maxLen])).bs HL2.out (by have := HB.out; have := HS.out; simp; omega) ?_; intro v4 w4 how hol4 hg4 hw4)
      have hlt : ∀ k, (Value.slice A' acc.length c').ownBlock = some k → k < wr.heap.size := fun k hk => (HO.out.lt k hk).2
      have hgn := grown_pre hg4 (fun e => by have := hlt _ e; omega)
      have hgw := grown_next HG.out hgn HV2.out
      have hvv : v4.ownBlock = (Value.slice A ln c).ownBlock ∨ ∃ g, v4.ownBlock = some g ∧ w1.heap.size ≤ g := by
        rcases hw4 with hw4 | hw4
        · rw [hw4]; exact HV2.out
        · exact .inr ⟨_, hw4, by have := HS.out; simp; omega⟩
      have hen : (acc ++ [UInt8.ofNat (n / 256 ^ i % 256)]) ++ dig i n = r := by rw [← HE.out]; simp
      have hold := HKL.out.alloc (.cells #[.int .u8 ((n : Int) / 2 ^ (8 * i) % 256)] 5)
      have hkk : Ow w4 base (Value.slice A ln c) l := Ow.later (fun g hg => (H.out.lt g hg).2) hold (HO.out.alloc _) hol4 hg4 HV2.out HLA.out
      have hlx : l.length ≤ (acc ++ [UInt8.ofNat (n / 256 ^ i % 256)]).length := by have := HLA.out; simp; omega
      clear hold
      go_roundw
      case rel => exact ⟨i, _, by omega, rfl, how, hen, hgw, hvv, hkk, hlx⟩
      case measure => simp [intOf]
end Go.Proofs.Ytobcomognkokmaa
