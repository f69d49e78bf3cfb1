/- A disk in plain Lean. -/
namespace Go.Proofs.Ytlpnichgfhgdmaa
set_option linter.unusedVariables false

/-- A disk: durable pages, pending writes, the fuse (negative: absent), whether it has failed. -/
structure DS where
  pages : List (List UInt8)
  pend : List (Nat × List UInt8)
  fuse : Int
  failed : Bool

/-- Every page has 128 bytes, every pending write is to a page that exists. -/
structure DS.Ok (D : DS) : Prop where
  pages : ∀ p ∈ D.pages, p.length = 128
  pend : ∀ w ∈ D.pend, w.1 < D.pages.length ∧ w.2.length = 128
  fuse : -1 ≤ D.fuse ∧ D.fuse ≤ 9223372036854775807

/-- The contents that a page has had, the newest last. -/
def hist (D : DS) (i : Nat) : List (List UInt8) := D.pages.getD i [] :: (D.pend.filter (fun w => w.1 == i)).map (·.2)
def content (D : DS) (i : Nat) : List UInt8 := (hist D i).getLast?.getD []
def thereB (D : DS) (p : Int) : Bool := decide (0 ≤ p) && decide (p < D.pages.length)
/-- What Read returns. -/
def dRead (D : DS) (p : Int) : List UInt8 × Int := if D.failed then ([], 10) else if thereB D p then (content D p.toNat, 0) else ([], 2)
/-- The fuse burns. -/
def dBurn (D : DS) : DS × Int := if D.fuse = 0 then ({ D with failed := true }, 10) else if 0 < D.fuse then ({ D with fuse := D.fuse - 1 }, 0) else (D, 0)
/-- What Write does. -/
def dWrite (D : DS) (p : Int) (data : List UInt8) : DS × Int :=
  if D.failed then (D, 10) else if data.length ≠ 128 then (D, 1) else if ¬ thereB D p then (D, 2) else
    if (dBurn D).2 = 0 then ({ (dBurn D).1 with pend := (dBurn D).1.pend ++ [(p.toNat, data)] }, 0) else dBurn D
/-- The first n bytes of a page are replaced. -/
def mixed (page data : List UInt8) (n : Int) : List UInt8 := data.take (min (max n 0) 128).toNat ++ page.drop (min (max n 0) 128).toNat
def settleFrom (f : Nat → Int) : Nat → List (Nat × List UInt8) → List (List UInt8) → List (List UInt8)
  | _, [], ps => ps
  | i, w :: ws, ps => settleFrom f (i + 1) ws (ps.set w.1 (mixed (ps.getD w.1 []) w.2 (f i)))
def dSettle (D : DS) (f : Nat → Int) : DS := { D with pages := settleFrom f 0 D.pend D.pages, pend := [] }
def dSync (D : DS) : DS × Int := if D.failed then (D, 10) else if (dBurn D).2 = 0 then (dSettle (dBurn D).1 (fun _ => 128), 0) else dBurn D
def dFailAfter (D : DS) (n : Int) : DS := { D with fuse := max n (-1) }
def dCrash (D : DS) (s : List Int) : DS := { dSettle D (fun i => s.getD i 0) with fuse := -1, failed := false }
def dNew (n : Nat) : DS := ⟨List.replicate n (List.replicate 128 0), [], -1, false⟩

theorem mixed_len (page data : List UInt8) (n : Int) (h1 : page.length = 128) (h2 : data.length = 128) : (mixed page data n).length = 128 := by
  unfold mixed; rw [List.length_append, List.length_take, List.length_drop]; omega
theorem settleFrom_ok (f : Nat → Int) (i : Nat) (ws : List (Nat × List UInt8)) (ps : List (List UInt8)) (h : ∀ p ∈ ps, p.length = 128) (hw : ∀ w ∈ ws, w.1 < ps.length ∧ w.2.length = 128) :
    (settleFrom f i ws ps).length = ps.length ∧ ∀ p ∈ settleFrom f i ws ps, p.length = 128 := by
  induction ws generalizing i ps with
  | nil => exact ⟨rfl, h⟩
  | cons w ws ih =>
    have h1 := hw w (by simp)
    have hg : (ps.getD w.1 []).length = 128 := by
      rw [List.getD_eq_getElem?_getD, List.getElem?_eq_getElem h1.1]
      exact h _ (List.getElem_mem _)
    have := ih (i + 1) (ps.set w.1 (mixed (ps.getD w.1 []) w.2 (f i))) (fun p hp => by
      rcases List.mem_or_eq_of_mem_set hp with hp | hp
      · exact h p hp
      · rw [hp]; exact mixed_len _ _ _ hg h1.2) (fun x hx => by rw [List.length_set]; exact hw x (by simp [hx]))
    rw [List.length_set] at this
    exact this
theorem dBurn_ok {D : DS} (h : D.Ok) : (dBurn D).1.Ok := by
  unfold dBurn
  split
  · exact ⟨h.pages, h.pend, h.fuse⟩
  · split
    · exact ⟨h.pages, h.pend, by have := h.fuse; simp; omega⟩
    · exact h
theorem dSettle_ok {D : DS} (h : D.Ok) (f : Nat → Int) : (dSettle D f).Ok := by
  have := settleFrom_ok f 0 D.pend D.pages h.pages h.pend
  exact ⟨this.2, (fun w hw => by cases hw), h.fuse⟩
theorem dBurn_pages (D : DS) : (dBurn D).1.pages = D.pages ∧ (dBurn D).1.pend = D.pend := by
  unfold dBurn
  split
  · exact ⟨rfl, rfl⟩
  · split <;> exact ⟨rfl, rfl⟩
theorem thereB_iff (D : DS) (p : Int) : thereB D p = true ↔ 0 ≤ p ∧ p < D.pages.length := by unfold thereB; simp
theorem dWrite_ok {D : DS} (h : D.Ok) (p : Int) (data : List UInt8) : (dWrite D p data).1.Ok := by
  unfold dWrite
  split
  · exact h
  split
  · exact h
  split
  · exact h
  rename_i h1 h2 h3
  have hb := dBurn_ok h
  have hp := dBurn_pages D
  split
  · refine ⟨hb.pages, fun w hw => ?_, hb.fuse⟩
    rcases List.mem_append.1 hw with hw | hw
    · exact hb.pend w hw
    · obtain rfl : w = (p.toNat, data) := by simpa using hw
      have h4 : thereB D p = true := by simpa using h3
      have := (thereB_iff D p).1 h4
      refine ⟨?_, by simpa using h2⟩
      show p.toNat < (dBurn D).1.pages.length
      rw [hp.1]; omega
  · exact hb
theorem dSync_ok {D : DS} (h : D.Ok) : (dSync D).1.Ok := by
  unfold dSync
  split
  · exact h
  split
  · exact dSettle_ok (dBurn_ok h) _
  · exact dBurn_ok h
theorem dCrash_ok {D : DS} (h : D.Ok) (s : List Int) : (dCrash D s).Ok := by
  have := dSettle_ok h (fun i => s.getD i 0)
  exact ⟨this.pages, this.pend, by show -1 ≤ (-1 : Int) ∧ (-1 : Int) ≤ 9223372036854775807; omega⟩
theorem dNew_ok (n : Nat) : (dNew n).Ok := ⟨(fun p hp => by have := List.eq_of_mem_replicate hp; rw [this]; simp), (fun w hw => by cases hw), (by show -1 ≤ (-1 : Int) ∧ (-1 : Int) ≤ 9223372036854775807; omega)⟩
end Go.Proofs.Ytlpnichgfhgdmaa
