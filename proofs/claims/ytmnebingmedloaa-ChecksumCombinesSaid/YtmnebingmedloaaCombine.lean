/- Combine of the checksum. -/
import Derived.Test.YtmnebingmedloaaCombFns
namespace Go.Proofs.Ytmnebingmedloaa
open Go.ChangeShapes Go.WideShapes Go.ChangeAt Go.RowKit
set_option linter.unusedVariables false
attribute [local go_sem] u32_xor

theorem comb_odd (j M : Nat) (A : BitVec 32) : stN ((j + j) * M) (stN j A) = stN (j * (2 * M + 1)) A := by
  rw [← stN_add]; congr 1; rw [Nat.mul_add, Nat.add_mul, Nat.mul_one, Nat.two_mul, Nat.mul_add]; omega
theorem comb_even (j M : Nat) (A : BitVec 32) : stN ((j + j) * M) A = stN (j * (2 * M)) A := by
  congr 1; rw [Nat.add_mul, Nat.two_mul, Nat.mul_add]
theorem and_i64_one (N : Nat) (h : N < 9223372036854775808) : bits .and .i64 (N : Int) 1 = ((N % 2 : Nat) : Int) := by
  show IntKind.i64.wrap ((BitVec.ofInt 64 (N : Int) &&& BitVec.ofInt 64 1).toNat : Int) = _
  rw [BitVec.ofInt_natCast, show BitVec.ofInt 64 1 = 1#64 from rfl, BitVec.toNat_and, BitVec.toNat_ofNat, show (1#64).toNat = 1 from rfl, Nat.and_one_is_mod]
  have h1 : N % 2 ^ 64 = N := Nat.mod_eq_of_lt (by omega)
  rw [h1]
  have : N % 2 = 0 ∨ N % 2 = 1 := by omega
  rcases this with h | h <;> rw [h] <;> rfl

/-- What the loop of Combine keeps. -/
def CombR (w : World) (n : Nat) (a : BitVec 32) (va vn vm : Value) (wr : World) : Prop :=
  ∃ (N : Nat) (A : BitVec 32) (j g : Nat), N ≤ n ∧ vn = .int .i64 N ∧ va = .int .u32 (u32 A) ∧ vm = .pointer (some ⟨g, 0, none⟩) ∧ Blk wr g 43 (matTo j 32) ∧ stN (j * N) A = stN (8 * n) a ∧ Below w.heap.size w wr

set_option maxHeartbeats 1000000 in
theorem combine_c (a b : BitVec 32) (n : Nat) (hn : n ≤ 140737488355328) (w : World) :
    Calls Try.prog 18 #[.int .u32 (u32 a), .int .u32 (u32 b), .int .i64 n] w fun e w' => e = .returned (.int .u32 (u32 (stN (8 * n) a ^^^ b))) ∧ Below w.heap.size w w' := by
  go_enter Try.func18, Try.ntmps18
  go_wp2_with fail
  refine (zero_c _).mono ?_
  rintro e w1 ⟨g0, rfl, hg0, hm0, hb0⟩
  go_wp2_with fail
  go_loopw [0, 2, 7] (fun va vn vm wr => CombR w n a va vn vm wr) (fun _ vn _ _ => (intOf vn).toNat)
  case atStart => exact ⟨n, a, 8, g0, Nat.le_refl _, rfl, rfl, rfl, hm0, rfl, hb0⟩
  case round =>
    clear hm0 hb0 hg0
    obtain ⟨N, A, j, g, hN, rfl, rfl, rfl, hm, he, hb⟩ := hrel
    by_cases h0 : N = 0
    · subst h0
      have he2 : A = stN (8 * n) a := by rw [← he]; rfl
      have HE := hide he2
      have HB := hide hb
      clear he he2 hb hm
      go_wp2_with fail
      go_ret
      exact ⟨by rw [← HE.out]; rfl, HB.out⟩
    have hpos : 0 < N := by omega
    have hq : (0 : Int) < N := by omega
    obtain ⟨M, r, hM, hr⟩ : ∃ M r : Nat, N = 2 * M + r ∧ r < 2 := ⟨N / 2, N % 2, by omega, by omega⟩
    have ha := and_i64_one N (by omega)
    have hr2 : N % 2 = r := by omega
    rw [hr2] at ha
    have hdiv : (N : Int) / 2 = (M : Int) := by omega
    have HM := hide hm
    have HE := hide he
    have HB := hide hb
    have HMN := hide hM
    have HN := hide hN
    clear hm he hb hM hr2 hN
    by_cases hr1 : r = 1
    · subst hr1
      go_wp2_with fail
      refine (times_c g j A _ HM.out).mono ?_
      rintro e w2 ⟨rfl, rfl⟩
      go_wp2_with fail
      refine (square_c g j _ HM.out).mono ?_
      rintro e w3 ⟨g2, rfl, hg2, hm2, hb2⟩
      go_wp2_with fail
      go_roundw
      case rel => exact ⟨M, stN j A, j + j, g2, by have := HMN.out; have := HN.out; omega, rfl, rfl, rfl, hm2, by rw [comb_odd, ← HMN.out, HE.out], HB.out.trans (hb2.mono HB.out.size)⟩
      case measure => simp [intOf]; have := HMN.out; omega
    · obtain rfl : r = 0 := by omega
      go_wp2_with fail
      refine (square_c g j _ HM.out).mono ?_
      rintro e w3 ⟨g2, rfl, hg2, hm2, hb2⟩
      go_wp2_with fail
      go_roundw
      case rel => exact ⟨M, A, j + j, g2, by have := HMN.out; have := HN.out; omega, rfl, rfl, rfl, hm2, by rw [comb_even, ← HE.out, HMN.out, Nat.add_zero], HB.out.trans (hb2.mono HB.out.size)⟩
      case measure => simp [intOf]; have := HMN.out; omega

/-- The law of Combine. -/
theorem combine_law (l m : List UInt8) : stN (8 * m.length) (upd 0#32 l) ^^^ upd 0#32 m = upd 0#32 (l ++ m) := by
  have hz : ∀ (n : Nat) (r : BitVec 32), reg r (List.replicate n 0) = stN (8 * n) r := by
    intro n
    induction n with
    | zero => intro r; rfl
    | succ n ih =>
      intro r
      rw [List.replicate_succ, reg_cons, ih, show ext 0 = 0#32 from rfl, BitVec.xor_zero, ← stN_add]
      congr 1; omega
  have h := reg_xor (List.replicate m.length 0) m (by simp) (upd 0#32 l) (~~~ 0#32)
  have hl : List.zipWith (fun (x1 x2 : UInt8) => x1 ^^^ x2) (List.replicate m.length 0) m = m := by
    clear h
    induction m with
    | nil => rfl
    | cons x m ih => simp only [List.length_cons, List.replicate_succ, List.zipWith_cons_cons, ih]; congr 1; simp
  rw [hl, hz] at h
  have hx : upd 0#32 l ^^^ ~~~ 0#32 = reg (~~~ 0#32) l := by
    unfold upd
    rw [not_xor_not, BitVec.xor_zero]
  rw [hx] at h
  show _ ^^^ ~~~ (reg (~~~ 0#32) m) = ~~~ (reg (~~~ 0#32) (l ++ m))
  rw [reg_append, h]
  apply BitVec.eq_of_getLsbD_eq
  intro i hi
  rw [BitVec.getLsbD_xor, BitVec.getLsbD_not, BitVec.getLsbD_not, BitVec.getLsbD_xor, decide_eq_true hi]
  cases (stN (8 * m.length) (upd 0#32 l)).getLsbD i <;> cases (reg (~~~ 0#32) m).getLsbD i <;> rfl
theorem update_law (l m : List UInt8) : upd (upd 0#32 l) m = upd 0#32 (l ++ m) := by
  unfold upd
  rw [reg_append, BitVec.not_not]
end Go.Proofs.Ytmnebingmedloaa
