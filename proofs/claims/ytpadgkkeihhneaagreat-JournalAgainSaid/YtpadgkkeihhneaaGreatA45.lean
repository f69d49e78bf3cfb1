/- The law's Same and bytes. -/
import Derived.Test.YtpadgkkeihhneaaGreatA44
namespace Go.Proofs.YtpadgkkeihhneaaGreat
set_option maxRecDepth 100000
set_option linter.unusedSimpArgs false
set_option linter.unusedVariables false
open Go.ChangeShapes Go.WideShapes Go.ChangeAt Go.RowKit
set_option linter.unusedVariables false
set_option linter.unusedSimpArgs false

theorem Zs.jr {g d : Nat} {E : DS} {K : JS} {w0 W0 W : World} {X M : List Nat} {v : Value} {D : DS} {J : JS} (h : Zs (fun W G => Jn W g d G E K) w0 W0 X M W v D J) : ∃ F q, Jr W g d F E K q := by
  obtain ⟨G, ⟨F, q, h1, _⟩, _⟩ := h
  exact ⟨F, q, h1⟩
theorem Zs.recs {P : World → List Nat → Prop} {w0 W0 W : World} {X M : List Nat} {D : DS} {J : JS} {A : Option Addr} {n c : Nat} {B : Option Addr} {m b : Nat} {fz : Int} {fl : Bool} {t : Int} {s : Value} {q : Value} {u : Int} {br : Bool} (h : Zs P w0 W0 X M W (.agg (rjc A n c B m b fz fl t s q u br).toArray) D J) :
    Rs W 0 q J.records ∧ (n = D.pages.length ∧ m = D.pend.length ∧ fz = D.fuse ∧ fl = D.failed) ∧ t = (J.turn : Int) ∧ s = sv J.state ∧ u = (J.used : Int) ∧ br = J.broken := by
  obtain ⟨G, h1, h2, h3, h4, h5, h6, h7⟩ := h
  have hrf := h3.rf
  obtain ⟨A0, n0, c0, B0, m0, b0, rw_, hv, _, hrs, hap⟩ := h3
  have hv2 := congrArg (fun x : Value => match x with | .agg a => a.toList | _ => []) hv
  simp only [rjc, List.cons.injEq, Value.slice.injEq, Value.int.injEq, Value.bool.injEq, true_and, and_true] at hv2
  obtain ⟨⟨rfl, rfl, rfl⟩, ⟨rfl, rfl, rfl⟩, rfl, rfl, rfl, rfl, rfl, rfl, rfl⟩ := hv2
  refine ⟨hrs, ⟨?_, ?_, rfl, rfl⟩, rfl, rfl, rfl, rfl⟩
  · obtain ⟨dv, pv, vs, xs, he, hk⟩ := hrf
    unfold rv at he
    injection he with he
    have h1 := congrArg (fun a : Array Value => a[0]?) he
    simp at h1
    subst h1
    have := hk.dur.2
    rcases this with ⟨e, h0⟩ | ⟨g, cap, cur, e, _⟩ <;> (injection e with e1 e2 e3; try omega)
  · obtain ⟨dv, pv, vs, xs, he, hk⟩ := hrf
    unfold rv at he
    injection he with he
    have h1 := congrArg (fun a : Array Value => a[1]?) he
    simp at h1
    subst h1
    have := hk.pend.2
    rcases this with ⟨e, h0⟩ | ⟨g, cap, cur, e, _⟩ <;> (injection e with e1 e2 e3; try omega)
theorem Zs.pages {P : World → List Nat → Prop} {w0 W0 W : World} {X M : List Nat} {v : Value} {D : DS} {J : JS} {d : Nat} {E : DS} (hd : ∀ W G, P W G → ∃ F, Disk W d F E) (h : Zs P w0 W0 X M W v D J) : Calls Tryz.prog 33 #[.pointer (some ⟨d, 0, none⟩)] W fun e w' => e = .returned (.int .i64 E.pages.length) ∧ W = w' := by
  obtain ⟨G, h1, _⟩ := h
  obtain ⟨F, hF⟩ := hd W G h1
  exact pages_c d F E W hF
theorem Zs.pending {P : World → List Nat → Prop} {w0 W0 W : World} {X M : List Nat} {v : Value} {D : DS} {J : JS} {d : Nat} {E : DS} (hd : ∀ W G, P W G → ∃ F, Disk W d F E) (h : Zs P w0 W0 X M W v D J) : Calls Tryz.prog 60 #[.pointer (some ⟨d, 0, none⟩)] W fun e w' => e = .returned (.int .i64 E.pend.length) ∧ W = w' := by
  obtain ⟨G, h1, _⟩ := h
  obtain ⟨F, hF⟩ := hd W G h1
  exact pending_c d F E W hF
theorem Zs.read {P : World → List Nat → Prop} {w0 W0 W : World} {X M : List Nat} {v : Value} {D : DS} {J : JS} {d : Nat} {E : DS} (hd : ∀ W G, P W G → ∃ F, Disk W d F E) (h : Zs P w0 W0 X M W v D J) (p : Int) : Calls Tryz.prog 34 #[.pointer (some ⟨d, 0, none⟩), .int .i64 p] W (ReadR W E p) := by
  obtain ⟨G, h1, _⟩ := h
  obtain ⟨F, hF⟩ := hd W G h1
  exact read_c d F E p W hF
end Go.Proofs.YtpadgkkeihhneaaGreat
