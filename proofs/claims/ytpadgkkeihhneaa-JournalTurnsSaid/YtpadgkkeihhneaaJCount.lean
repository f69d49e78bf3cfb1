/- bytes.Count at one byte. -/
import Derived.Test.YtpadgkkeihhneaaJSave
import Derived.Shelf.Bytes.SlCountOne
namespace Go.Proofs.Ytpadgkkeihhneaa
set_option maxRecDepth 100000
set_option linter.unusedSimpArgs false
set_option linter.unusedVariables false
open Go.ChangeShapes Go.WideShapes Go.ChangeAt Go.RowKit
set_option linter.unusedVariables false
set_option linter.unusedSimpArgs false

theorem bytesOf_list (l : List UInt8) : Lib.bytesOf (l.map u8) = l := by
  unfold Lib.bytesOf
  rw [List.map_map]
  conv => rhs; rw [← List.map_id l]
  apply List.map_congr_left
  intro x _
  show (u8 x).toNat.toUInt8 = x
  unfold u8
  simp
set_option maxHeartbeats 2000000 in
theorem count_c (b off n c b2 d : Nat) (l : List UInt8) (w : World) (h : Bs w (.slice (some ⟨b, off, none⟩) n c) l) (h2 : w.cell? ⟨b2, 0, none⟩ = some (.int .u8 0)) :
    Calls Try.prog 37 #[.slice (some ⟨b, off, none⟩) n c, .slice (some ⟨b2, 0, none⟩) 1 d] w fun e w' => e = .returned (.int .i64 (l.count 0 : Nat)) ∧ w = w' := by
  have hx : (l.map u8).length = n := by rw [List.length_map]; exact h.len_eq.1.symm
  have hc : ∀ i, i < n → w.cell? ⟨b, off + i, none⟩ = some (.int .u8 ((l.map u8).getD i 0)) := fun i hi => by
    obtain ⟨b', off', x, he, _, hl, hcell⟩ := h.at_ hi
    injection he with he
    injection he with e1 e2
    subst e1 e2
    rw [hcell]
    congr 2
    simp [List.getD, hl]
  have HR := hide (Lib.run_countSlice (P := Try.prog) w b off n c (l.map u8) hx hc 0)
  have HE : Hid ((Lib.countByte (Lib.bytesOf (l.map u8)) (0 : Int).toNat.toUInt8) = l.count 0) := hide (by rw [bytesOf_list]; rfl)
  clear hx hc h
  go_enter Try.func37, Try.ntmps37
  go_wp2_with fail
  rw [run_callFunc_extern Try.func50 (by kernel_rfl) (by kernel_rfl) (by kernel_rfl) (e := Extern.BytealgCount.count) (by kernel_rfl), HR.out]
  simp only [Result.andThen]
  rw [Oper.upon_value]
  go_wp2_with fail
  go_ret
  exact ⟨by rw [← HE.out]; rfl, rfl⟩
end Go.Proofs.Ytpadgkkeihhneaa
