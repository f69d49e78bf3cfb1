/- What an operation does to a client and to the reference: the plain model, and the reference's calls in its words. -/
import Derived.Test.YtpbgelhjbfckcaaSameOut
import Derived.Test.YtpbgelhjbfckcaaReply
import Derived.Test.YtpbgelhjbfckcaaOwn3
import Derived.Test.YtpbgelhjbfckcaaAwake
namespace Go.Proofs.Ytpbgelhjbfckcaa
open Go.ChangeShapes Go.WideShapes Go.ChangeAt Go.RowKit
set_option linter.unusedVariables false
set_option linter.unusedSimpArgs false

/-- The open request is one that Request or Call has made. -/
def Asks (S : CS) : Prop := ∀ cs, S.opened = some cs → ∃ k g b v, cs = req k g S.id S.number b v ∧ (k = 1 ∨ k = 9)
/-- A message that a client sends, or the zero one. -/
def Good (out : List Value) : Prop := ∃ T k g c n b v, out = .int .i64 T :: req k g c n b v
theorem zmsg_req : zmsg = req 0 0 0 0 ⟨#[]⟩ 0 := rfl
theorem zout_good : Good zout := ⟨0, 0, 0, 0, 0, ⟨#[]⟩, 0, by rw [zout_def, zmsg_req]⟩
theorem Good.len {o : List Value} (h : Good o) : o.length = 48 := by obtain ⟨T, k, g, c, n, b, v, rfl⟩ := h; rfl
theorem Good.ones {o : List Value} (h : Good o) : o.all (·.oneCell') = true := by obtain ⟨T, k, g, c, n, b, v, rfl⟩ := h; exact out_ones (req_ones _ _ _ _ _ _)
theorem Good.same {o : List Value} (h : Good o) (b c : Nat) (w : World) (hb : Blk w b 59 o.toArray) (hc : Blk w c 59 o.toArray) :
    Calls Try.prog 35 #[.slice (some ⟨b, 0, none⟩) 1 1, .slice (some ⟨c, 0, none⟩) 1 1] w (Yes w) := by
  obtain ⟨T, k, g, q, n, y, v, rfl⟩ := h
  exact sameOut_one T _ (fun X => same_req k g q n y v X) rfl b c w hb hc
theorem Asks.open_len {S : CS} (h : Asks S) : (openOf S).1.length = 47 ∧ (openOf S).1.all (·.oneCell') = true := by
  unfold openOf
  cases ho : S.opened with
  | none => exact ⟨rfl, req_ones 0 0 0 0 ⟨#[]⟩ 0⟩
  | some cs => obtain ⟨k, g, b, v, rfl, _⟩ := h cs ho; exact ⟨rfl, req_ones _ _ _ _ _ _⟩
theorem Asks.rlen {S : CS} (h : Asks S) : (rC S).length = 52 := rcl_len h.open_len.1
theorem Asks.rones {S : CS} (h : Asks S) : (rC S).all (·.oneCell') = true := rcl_ones h.open_len.2
theorem asks_opened (S : CS) (k g : Int) (b : ByteArray) (v : Int) (hk : k = 1 ∨ k = 9) : Asks (opened S (req k g 0 0 b v)) := fun cs hc => by
  unfold opened at hc
  injection hc with hc
  subst hc
  exact ⟨k, g, b, v, opens_req S k g 0 0 b v, hk⟩
theorem cRequest_asks {S : CS} (h : Asks S) (g : Int) (b : ByteArray) : Asks (cRequest S g b).st ∧ Good (cRequest S g b).out := by
  unfold cRequest
  split
  · exact ⟨h, zout_good⟩
  · split
    · exact ⟨h, zout_good⟩
    · split
      · exact ⟨h, zout_good⟩
      · exact ⟨asks_opened S 1 g b 0 (.inl rfl), S.target, 1, g, S.id, S.number + 1, b, 0, by rw [opens_req]⟩
theorem cCall_asks {S : CS} (h : Asks S) (g v : Int) : Asks (cCall S g v).st ∧ Good (cCall S g v).out := by
  unfold cCall
  split
  · exact ⟨h, zout_good⟩
  · split
    · exact ⟨h, zout_good⟩
    · exact ⟨asks_opened S 9 g ⟨#[]⟩ v (.inr rfl), S.target, 9, g, S.id, S.number + 1, ⟨#[]⟩, v, by rw [opens_req]⟩
theorem cRetry_asks {S : CS} (h : Asks S) : Asks (cRetry S).st ∧ Good (cRetry S).out := by
  unfold cRetry
  cases ho : S.opened with
  | none => exact ⟨h, zout_good⟩
  | some cs =>
    refine ⟨fun cs' hc => h cs' hc, ?_⟩
    obtain ⟨k, g, b, v, rfl, _⟩ := h cs ho
    exact ⟨_, k, g, S.id, S.number, b, v, rfl⟩
theorem rreq_model {S : CS} (hA : Asks S) (hok : S.Ok) (hn : S.number < 1000000) (gr : Int) (b : ByteArray) (hb : b.size ≤ maxLen) (w : World) :
    Calls Try.prog 33 #[.agg (rC S).toArray, .int .i64 gr, .string b] w (Hands w (.tuple #[.agg (rC (cRequest S gr b).st).toArray, .agg (cRequest S gr b).out.toArray, .int .i64 (cRequest S gr b).code])) := by
  have h := rrequest_c S.id S.machines S.target S.number S.opened.isSome (openOf S).1 gr b hb hok.number.1 hn hA.open_len.1 hA.open_len.2 w
  refine h.mono fun e w' hh => ?_
  obtain ⟨rfl, hbw⟩ := hh
  refine ⟨?_, hbw⟩
  unfold cRequest
  cases ho : S.opened with
  | some cs =>
    rw [if_pos (by simp), if_pos (by simp)]
    unfold rC; rw [ho]
  | none =>
    rw [if_neg (by simp : ¬ ((none : Option (List Value)).isSome = true)), if_neg (by simp : ¬ ((none : Option (List Value)) ≠ none))]
    by_cases h1 : gr < 0 ∨ 8 < gr
    · rw [if_pos h1, if_pos h1]
      unfold rC; rw [ho]
    · rw [if_neg h1, if_neg h1]
      by_cases h2 : 4096 < b.size
      · rw [if_pos h2, if_pos h2]
        unfold rC; rw [ho]
      · rw [if_neg h2, if_neg h2, opens_req]
        unfold rC opened openOf
        rw [opens_req]
        rfl
theorem rcall_model {S : CS} (hA : Asks S) (hok : S.Ok) (hn : S.number < 1000000) (gr v : Int) (w : World) :
    Calls Try.prog 36 #[.agg (rC S).toArray, .int .i64 gr, .int .i64 v] w (Hands w (.tuple #[.agg (rC (cCall S gr v).st).toArray, .agg (cCall S gr v).out.toArray, .int .i64 (cCall S gr v).code])) := by
  have h := rcall_c S.id S.machines S.target S.number S.opened.isSome (openOf S).1 gr v hok.number.1 hn hA.open_len.1 hA.open_len.2 w
  refine h.mono fun e w' hh => ?_
  obtain ⟨rfl, hbw⟩ := hh
  refine ⟨?_, hbw⟩
  unfold cCall
  cases ho : S.opened with
  | some cs =>
    rw [if_pos (by simp), if_pos (by simp)]
    unfold rC; rw [ho]
  | none =>
    rw [if_neg (by simp : ¬ ((none : Option (List Value)).isSome = true)), if_neg (by simp : ¬ ((none : Option (List Value)) ≠ none))]
    by_cases h1 : gr < 1 ∨ 8 < gr
    · rw [if_pos h1, if_pos h1]
      unfold rC; rw [ho]
    · rw [if_neg h1, if_neg h1, opens_req]
      unfold rC opened openOf
      rw [opens_req]
      rfl
theorem rret_model {S : CS} (hA : Asks S) (hok : S.Ok) (w : World) :
    Calls Try.prog 38 #[.agg (rC S).toArray] w (Hands w (.tuple #[.agg (rC (cRetry S).st).toArray, .agg (cRetry S).out.toArray, .bool (cRetry S).is])) := by
  have h := rretry_c S.id S.machines S.target S.number S.opened.isSome (openOf S).1 hok.machines hok.target hA.open_len.1 hA.open_len.2 w
  refine h.mono fun e w' hh => ?_
  obtain ⟨rfl, hbw⟩ := hh
  refine ⟨?_, hbw⟩
  unfold cRetry
  cases ho : S.opened with
  | some cs =>
    rw [if_pos (by simp)]
    unfold rC turned openOf
    dsimp only
    rw [ho]
    rfl
  | none =>
    rw [if_neg (by simp)]
    unfold rC; rw [ho]
/-- What Receive does. -/
def cReceive (S : CS) (m : MV) (frm : Int) : RecV := match S.opened with
  | none => ⟨S, false, none⟩
  | some cs => match cs with
    | .int _ k :: .int _ g :: _ => if answersB S k g m = true then cAnswered S cs m frm else ⟨S, false, none⟩
    | _ => ⟨S, false, none⟩
theorem recv_model (g : Nat) (S : CS) (p : Value) (frm : Int) (m : MV) (w : World) (h : Cl w g S p) (hA : Asks S) (hm : m.Ok) :
    Calls Try.prog 16 #[.pointer (some ⟨g, 0, none⟩), .int .i64 frm, .agg m.cells.toArray] w (RecR w g (cReceive S m frm)) := by
  unfold cReceive
  cases ho : S.opened with
  | none => exact recv_shut g S p frm m w h hm ho
  | some cs =>
    obtain ⟨k, gr, b, v, rfl, hk⟩ := hA cs ho
    exact recv_c g S p frm m w h hm k gr _ ho hk
theorem rrecv_model {S : CS} (hA : Asks S) (m : MV) (hm : m.Ok) (frm : Int) (w : World) :
    Calls Try.prog 39 #[.agg (rC S).toArray, .int .i64 frm, .agg m.cells.toArray] w (RRecR w (cReceive S m frm)) := by
  obtain ⟨i, mm, T, n, o⟩ := S
  unfold cReceive
  cases o with
  | none =>
    exact (rrecv_shut i mm T n frm m (zmsg.drop 1) rfl (req_ones 0 0 0 0 ⟨#[]⟩ 0) w).mono fun e w' hh => rrec_same (S := ⟨i, mm, T, n, none⟩) hh
  | some cs =>
    obtain ⟨k, gr, b, v, hcs, hk⟩ := hA cs rfl
    dsimp only at hcs
    subst hcs
    exact rreceive_c i mm T n frm m hm k gr _ hk rfl (req_ones _ _ _ _ _ _) w
theorem cAnswered_asks {S : CS} (h : Asks S) (m : MV) (frm : Int) : Asks (cReceive S m frm).st ∧ ∀ o, (cReceive S m frm).out = some o → Good o := by
  unfold cReceive
  cases ho : S.opened with
  | none => exact ⟨h, by intro o ho; cases ho⟩
  | some cs =>
    obtain ⟨k, g, b, v, rfl, hk⟩ := h cs ho
    show Asks (if answersB S k g m = true then cAnswered S _ m frm else ⟨S, false, none⟩).st ∧ ∀ o, (if answersB S k g m = true then cAnswered S _ m frm else (⟨S, false, none⟩ : RecV)).out = some o → Good o
    split
    · unfold cAnswered
      split
      · exact ⟨(fun cs' hc => by cases hc), by intro o ho; cases ho⟩
      · split
        · refine ⟨fun cs' hc => h cs' hc, fun o hq => ?_⟩
          injection hq with hq
          subst hq
          exact ⟨_, k, g, S.id, S.number, b, v, rfl⟩
        · exact ⟨h, by intro o ho; cases ho⟩
    · exact ⟨h, by intro o ho; cases ho⟩
/-- A client's block and its request's are of types of their own. -/
theorem Cl.put {w w' : World} {g b : Nat} {S : CS} {p : Value} {t : TypeId} {cs : Array Value} (h : Cl w g S p) (hb : Blk w b t cs) (ht : t ≠ 74 ∧ t ≠ 41) (k : Touch [b] w w') : Cl w' g S p := by
  refine h.far_of k ?_ ?_
  · simp only [List.mem_singleton]
    rintro rfl
    have h1 := h.blk
    unfold Blk at h1 hb
    rw [h1] at hb
    injection hb with hb; injection hb with _ hb
    exact ht.1 hb.symm
  · intro c hc
    simp only [List.mem_singleton]
    rintro rfl
    cases ho : S.opened with
    | none => rw [h.shut ho] at hc; cases hc
    | some cs' =>
      obtain ⟨b', _, h2, h3⟩ := h.opened cs' ho
      rw [h2] at hc
      injection hc with hc; injection hc with hc; injection hc with hc
      subst hc
      unfold Blk at h3 hb
      rw [h3] at hb
      injection hb with hb; injection hb with _ hb
      exact ht.2 hb.symm
/-- What an operation does: the client, the messages. -/
def cStep (S : CS) (x : OpV) : CS × List (List Value) :=
  if x.kind = 0 then ((cRequest S x.group x.body).st, if (cRequest S x.group x.body).code = 0 then [(cRequest S x.group x.body).out] else [])
  else if x.kind = 1 then ((cCall S x.group x.value).st, if (cCall S x.group x.value).code = 0 then [(cCall S x.group x.value).out] else [])
  else if x.kind = 2 then ((cRetry S).st, if (cRetry S).is = true then [(cRetry S).out] else [])
  else if x.kind = 3 then ((cReceive S (repM x S.number) x.frm).st, (cReceive S (repM x S.number) x.frm).out.toList)
  else (S, [])
/-- A list of messages in memory. -/
def OutsIn (w : World) (n : Nat) (v : Value) (l : List (List Value)) : Prop := ∃ A c, v = .slice A l.length c ∧ l.length ≤ c ∧ c ≤ maxLen ∧ (∀ o ∈ l, Good o) ∧ l.length ≤ 1 ∧ (∀ o, l = [o] → ∃ b, n ≤ b ∧ A = some ⟨b, 0, none⟩ ∧ Blk w b 59 o.toArray)
def StepR (w : World) (g : Nat) (r : CS × List (List Value)) (e : Ending) (w' : World) : Prop :=
  ∃ v, e = .returned (.tuple #[.agg (rC r.1).toArray, v, .bool true]) ∧ OutsIn w' w.heap.size v r.2 ∧ (∃ q, Cl w' g r.1 q) ∧ Touch [g] w w'
end Go.Proofs.Ytpbgelhjbfckcaa
