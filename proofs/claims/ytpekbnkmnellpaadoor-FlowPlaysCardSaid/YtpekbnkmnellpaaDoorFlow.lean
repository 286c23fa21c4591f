/-
  The walks of channel's Flow: NewFlow, Send, Sent, Came, Recv.
-/
import Derived.Test.YtpekbnkmnellpaaDoorCommit
import Derived.Laws.EntriesVeiled
import Derived.Deep.QuietTactic
import Derived.BigQuiet
namespace Go.Proofs.YtpekbnkmnellpaaDoor
open Go.RowKit Go.Maps
set_option linter.unusedVariables false

/-- a flow -/
structure Fl where
  ordered : Bool
  (send recv ack : Int)
  (sent written : Int → Option ByteArray)
  got : Int → Bool
/-- where it lies -/
structure FB where
  (f ms mw mg : Nat)
def FB.l (B : FB) : List Nat := [B.f, B.ms, B.mw, B.mg]
def fcells (B : FB) (s : Fl) : Array Value := #[.func (.func (if s.ordered then 68 else 70)) #[] #[], .func (.func (if s.ordered then 69 else 71)) #[] #[],
  .bool s.ordered, .int .u64 s.send, .int .u64 s.recv, .int .u64 s.ack, .map (some B.ms), .map (some B.mw), .map (some B.mg)]
structure FlowAt (w : World) (B : FB) (n : Nat) (s : Fl) : Prop where
  blk : Blk w B.f 98 (fcells B s)
  ms : MapS w B.ms n s.sent
  mw : MapS w B.mw n s.written
  mg : MapB w B.mg n s.got
  fms : B.f ≠ B.ms
  fmw : B.f ≠ B.mw
  fmg : B.f ≠ B.mg
  sw : B.ms ≠ B.mw
  sg : B.ms ≠ B.mg
  wg : B.mw ≠ B.mg
  send : u64r s.send
  recv : u64r s.recv
  ack : u64r s.ack
theorem MapS.mono {w : World} {b n m : Nat} {f : Int → Option ByteArray} (h : MapS w b n f) (hn : n ≤ m) : MapS w b m f := by
  obtain ⟨D, ho, hr⟩ := h
  exact ⟨D, ho.mono hn, hr⟩
theorem MapB.mono {w : World} {b n m : Nat} {f : Int → Bool} (h : MapB w b n f) (hn : n ≤ m) : MapB w b m f := by
  obtain ⟨D, ho, hr⟩ := h
  exact ⟨D, ho.mono hn, hr⟩
theorem FlowAt.mono {w : World} {B : FB} {n m : Nat} {s : Fl} (h : FlowAt w B n s) (hn : n ≤ m) : FlowAt w B m s := { h with ms := h.ms.mono hn, mw := h.mw.mono hn, mg := h.mg.mono hn }
theorem FlowAt.kept {w w' : World} {B : FB} {n : Nat} {s : Fl} {S : List Nat} (h : FlowAt w B n s) (ho : Only S w w') (hS : ∀ x ∈ B.l, x ∉ S) : FlowAt w' B n s :=
  { h with
    blk := h.blk.only ho (hS _ (by simp [FB.l]))
    ms := h.ms.of_block (ho.block _ h.ms.lt (hS _ (by simp [FB.l])))
    mw := h.mw.of_block (ho.block _ h.mw.lt (hS _ (by simp [FB.l])))
    mg := h.mg.of_block (ho.block _ h.mg.lt (hS _ (by simp [FB.l]))) }
theorem FlowAt.below {w w' : World} {B : FB} {n : Nat} {s : Fl} (h : FlowAt w B n s) (hb : Below w.heap.size w w') : FlowAt w' B n s := h.kept (S := []) (Only.of_below hb) (by simp)
theorem FlowAt.alloc {w : World} {B : FB} {n : Nat} {s : Fl} (h : FlowAt w B n s) (o : Obj) : FlowAt (w.alloc o) B n s := h.below (balloc (Below.refl _ w) o)
theorem FlowAt.drew {w : World} {B : FB} {n : Nat} {s : Fl} (h : FlowAt w B n s) : FlowAt w.drew B n s := h.below (Below.refl _ w).drew
theorem FlowAt.lt {w : World} {B : FB} {n : Nat} {s : Fl} (h : FlowAt w B n s) : ∀ x ∈ B.l, x < w.heap.size := by
  intro x hx
  simp only [FB.l, List.mem_cons, List.not_mem_nil, or_false] at hx
  rcases hx with rfl | rfl | rfl | rfl
  · exact h.blk.lt
  · exact h.ms.lt
  · exact h.mw.lt
  · exact h.mg.lt
def Fl.new (o : Bool) : Fl := ⟨o, 1, 1, 1, fun _ => none, fun _ => none, fun _ => false⟩
theorem one_r : u64r 1 := ⟨by omega, by omega⟩
theorem flow_new (o : Bool) (w : World) : FlowAt ((((w.alloc (.map #[] 0)).alloc (.map #[] 0)).alloc (.map #[] 0)).alloc (.cells (fcells ⟨w.heap.size + 3, w.heap.size, w.heap.size + 1, w.heap.size + 2⟩ (Fl.new o)) 98)) ⟨w.heap.size + 3, w.heap.size, w.heap.size + 1, w.heap.size + 2⟩ 0 (Fl.new o) := by
  obtain ⟨w1, h1⟩ : ∃ w1, w1 = w.alloc (.map #[] 0) := ⟨_, rfl⟩
  have s1 : w1.heap.size = w.heap.size + 1 := by rw [h1]; simp
  have m1 : MapS w1 w.heap.size 0 (fun _ => none) := h1 ▸ MapS.new w
  rw [← h1]
  obtain ⟨w2, h2⟩ : ∃ w2, w2 = w1.alloc (.map #[] 0) := ⟨_, rfl⟩
  have s2 : w2.heap.size = w.heap.size + 2 := by rw [h2]; simp; omega
  have m1' : MapS w2 w.heap.size 0 (fun _ => none) := m1.of_block (by rw [h2]; exact Below.heap_alloc _ _ _ (by omega))
  have m2 : MapS w2 (w.heap.size + 1) 0 (fun _ => none) := by rw [h2, ← s1]; exact MapS.new w1
  rw [← h2]
  obtain ⟨w3, h3⟩ : ∃ w3, w3 = w2.alloc (.map #[] 0) := ⟨_, rfl⟩
  have s3 : w3.heap.size = w.heap.size + 3 := by rw [h3]; simp; omega
  have m1'' : MapS w3 w.heap.size 0 (fun _ => none) := m1'.of_block (by rw [h3]; exact Below.heap_alloc _ _ _ (by omega))
  have m2' : MapS w3 (w.heap.size + 1) 0 (fun _ => none) := m2.of_block (by rw [h3]; exact Below.heap_alloc _ _ _ (by omega))
  have m3 : MapB w3 (w.heap.size + 2) 0 (fun _ => false) := by rw [h3, ← s2]; exact MapB.new w2
  rw [← h3]
  exact ⟨s3 ▸ Blk.new w3 _ _, m1''.of_block (Below.heap_alloc _ _ _ (by omega)), m2'.of_block (Below.heap_alloc _ _ _ (by omega)), m3.of_block (Below.heap_alloc _ _ _ (by omega)), by simp, by simp, by simp, by simp, by simp, by simp, one_r, one_r, one_r⟩
set_option maxRecDepth 100000 in
set_option maxHeartbeats 1000000 in
theorem newflow_is (o : Bool) (w : World) :
    Calls Tryd.prog 19 #[.bool o] w fun e w' => e = .returned (.pointer (some ⟨w.heap.size + 3, 0, none⟩)) ∧ FlowAt w' ⟨w.heap.size + 3, w.heap.size, w.heap.size + 1, w.heap.size + 2⟩ 0 (Fl.new o) ∧ Below w.heap.size w w' ∧ w'.heap.size = w.heap.size + 4 := by
  have hmm := @run_makeMap Tryd.prog
  have HF := Lib.hid (flow_new o w)
  cases o
  all_goals
    go_enter Tryd.func19, Tryd.ntmps19
    go_wp2
    go_ret
    exact ⟨rfl, HF.out, balloc (balloc (balloc (balloc (Below.refl _ w) _) _) _) _, by simp⟩
set_option maxHeartbeats 1000000 in
theorem sent_is (w : World) (B : FB) (n : Nat) (s : Fl) (k : Int) (h : FlowAt w B n s) (hk : u64r k) :
    Calls Tryd.prog 28 #[.pointer (some ⟨B.f, 0, none⟩), .int .u64 k] w fun e w' => e = .returned (.tuple #[.string ((s.sent k).getD ByteArray.empty), .bool (s.sent k).isSome]) ∧ w = w' := by
  have c6 : w.cell? ⟨B.f, 6, none⟩ = some (.map (some B.ms)) := h.blk.cell 6
  have hl := h.ms.look hk
  generalize (s.sent k).getD ByteArray.empty = v at hl ⊢
  generalize (s.sent k).isSome = b at hl ⊢
  have HH := Lib.hid h
  clear h
  go_enter Tryd.func28, Tryd.ntmps28
  go_wp2_with fail
  go_ret2
  exact ⟨rfl, rfl⟩
def Fl.may (s : Fl) (k : Int) : Int := if s.ordered then (if k = s.recv then 0 else 183) else if k = 0 ∨ s.got k = true then 184 else 0
def Fl.came (s : Fl) (k : Int) : Bool := if s.ordered then decide (0 < k) && decide (k < s.recv) else s.got k
set_option maxHeartbeats 1000000 in
theorem inturn_is (w : World) (f : Nat) (rv k : Int) (e : Int) (c4 : w.cell? ⟨f, 4, none⟩ = some (.int .u64 rv)) (he : e = if k = rv then 0 else 183) :
    Calls Tryd.prog 68 #[.pointer (some ⟨f, 0, none⟩), .int .u64 k] w fun r w' => r = .returned (.int .i64 e) ∧ w' = w := by
  have HE := Lib.hid he
  clear he
  by_cases hk : k = rv
  · have HE2 : Hid (e = 0) := Lib.hid (by rw [HE.out, if_pos hk])
    have t : (k != rv) = false := by simp [hk]
    clear hk HE
    go_enter Tryd.func68, Tryd.ntmps68
    go_wp2_with fail
    go_ret
    exact ⟨by rw [HE2.out]; rfl, rfl⟩
  · have HE2 : Hid (e = 183) := Lib.hid (by rw [HE.out, if_neg hk])
    have t : (k != rv) = true := by simp [hk]
    clear hk HE
    go_enter Tryd.func68, Tryd.ntmps68
    go_wp2_with fail
    go_ret
    exact ⟨by rw [HE2.out]; rfl, rfl⟩
set_option maxHeartbeats 1000000 in
theorem once_is (w : World) (f mg n : Nat) (gt : Int → Bool) (k : Int) (e : Int) (hk : u64r k) (c8 : w.cell? ⟨f, 8, none⟩ = some (.map (some mg))) (hm : MapB w mg n gt) (he : e = if k = 0 ∨ gt k = true then 184 else 0) :
    Calls Tryd.prog 70 #[.pointer (some ⟨f, 0, none⟩), .int .u64 k] w fun r w' => r = .returned (.int .i64 e) ∧ w' = w := by
  have HE := Lib.hid he
  have hl := hm.look hk
  have HM := Lib.hid hm
  clear he hm
  by_cases h0 : k = 0
  · have HE2 : Hid (e = 184) := Lib.hid (by rw [HE.out, if_pos (.inl h0)])
    have t : (k == 0) = true := by simp [h0]
    clear h0 HE
    go_enter Tryd.func70, Tryd.ntmps70
    go_wp2_with fail
    go_ret
    exact ⟨by rw [HE2.out]; rfl, rfl⟩
  · have t : (k == 0) = false := by simp [h0]
    cases hg : gt k with
    | true =>
      have HE2 : Hid (e = 184) := Lib.hid (by rw [HE.out, if_pos (.inr hg)])
      rw [hg] at hl
      clear h0 HE hg
      go_enter Tryd.func70, Tryd.ntmps70
      go_wp2_with fail
      go_ret
      exact ⟨by rw [HE2.out]; rfl, rfl⟩
    | false =>
      have HE2 : Hid (e = 0) := Lib.hid (by rw [HE.out, if_neg]; rintro (h | h); exact h0 h; rw [hg] at h; cases h)
      rw [hg] at hl
      clear h0 HE hg
      go_enter Tryd.func70, Tryd.ntmps70
      go_wp2_with fail
      go_ret
      exact ⟨by rw [HE2.out]; rfl, rfl⟩
set_option maxHeartbeats 1000000 in
theorem passed_is (w : World) (f : Nat) (rv k : Int) (b : Bool) (c4 : w.cell? ⟨f, 4, none⟩ = some (.int .u64 rv)) (he : b = (decide (0 < k) && decide (k < rv))) :
    Calls Tryd.prog 69 #[.pointer (some ⟨f, 0, none⟩), .int .u64 k] w fun r w' => r = .returned (.bool b) ∧ w' = w := by
  have HE := Lib.hid he
  clear he
  by_cases h0 : 0 < k
  · by_cases h1 : k < rv
    · have HE2 : Hid (b = true) := Lib.hid (by rw [HE.out, decide_eq_true h0, decide_eq_true h1]; rfl)
      have t0 : decide (0 < k) = true := decide_eq_true h0
      have t1 : decide (k < rv) = true := decide_eq_true h1
      go_enter Tryd.func69, Tryd.ntmps69
      go_wp2_with fail
      go_ret
      exact ⟨by rw [HE2.out]; rfl, rfl⟩
    · have HE2 : Hid (b = false) := Lib.hid (by rw [HE.out, decide_eq_true h0, decide_eq_false h1]; rfl)
      have t0 : decide (0 < k) = true := decide_eq_true h0
      have t1 : decide (k < rv) = false := decide_eq_false h1
      go_enter Tryd.func69, Tryd.ntmps69
      go_wp2_with fail
      go_ret
      exact ⟨by rw [HE2.out]; rfl, rfl⟩
  · have HE2 : Hid (b = false) := Lib.hid (by rw [HE.out, decide_eq_false h0]; rfl)
    have t0 : decide (0 < k) = false := decide_eq_false h0
    go_enter Tryd.func69, Tryd.ntmps69
    go_wp2_with fail
    go_ret
    exact ⟨by rw [HE2.out]; rfl, rfl⟩
set_option maxHeartbeats 1000000 in
theorem noted_is (w : World) (f mg n : Nat) (gt : Int → Bool) (k : Int) (hk : u64r k) (c8 : w.cell? ⟨f, 8, none⟩ = some (.map (some mg))) (hm : MapB w mg n gt) :
    Calls Tryd.prog 71 #[.pointer (some ⟨f, 0, none⟩), .int .u64 k] w fun r w' => r = .returned (.bool (gt k)) ∧ w' = w := by
  have hl := hm.look hk
  have HM := Lib.hid hm
  clear hm
  generalize gt k = b at hl ⊢
  go_enter Tryd.func71, Tryd.ntmps71
  go_wp2_with fail
  go_ret
  exact ⟨rfl, rfl⟩
set_option maxHeartbeats 1000000 in
theorem came_is (w : World) (B : FB) (n : Nat) (s : Fl) (k : Int) (h : FlowAt w B n s) (hk : u64r k) :
    Calls Tryd.prog 22 #[.pointer (some ⟨B.f, 0, none⟩), .int .u64 k] w fun e w' => e = .returned (.bool (s.came k)) ∧ w = w' := by
  obtain ⟨f, ms, mw, mg⟩ := B
  obtain ⟨od, sd, rv, ak, st, wt, gt⟩ := s
  have c4 : w.cell? ⟨f, 4, none⟩ = some (.int .u64 rv) := h.blk.cell 4
  have c8 : w.cell? ⟨f, 8, none⟩ = some (.map (some mg)) := h.blk.cell 8
  have HH := Lib.hid h
  have HMG := Lib.hid (show MapB w mg n gt from h.mg)
  clear h
  cases od with
  | true =>
    have c1 : w.cell? ⟨f, 1, none⟩ = some (.func (.func 69) #[] #[]) := HH.out.blk.cell 1
    obtain ⟨b, hb⟩ : ∃ b, Fl.came ⟨true, sd, rv, ak, st, wt, gt⟩ k = b := ⟨_, rfl⟩
    rw [hb]
    have HB := Lib.hid hb
    clear hb
    show Calls Tryd.prog 22 #[.pointer (some ⟨f, 0, none⟩), .int .u64 k] w _
    go_enter Tryd.func22, Tryd.ntmps22
    go_wp2_with fail
    refine (passed_is w f rv k b c4 HB.out.symm).mono ?_
    rintro e w1 ⟨rfl, rfl⟩
    go_wp2_with fail
    go_ret
    exact ⟨rfl, rfl⟩
  | false =>
    have c1 : w.cell? ⟨f, 1, none⟩ = some (.func (.func 71) #[] #[]) := HH.out.blk.cell 1
    show Calls Tryd.prog 22 #[.pointer (some ⟨f, 0, none⟩), .int .u64 k] w fun e w' => e = .returned (.bool (gt k)) ∧ w = w'
    go_enter Tryd.func22, Tryd.ntmps22
    go_wp2_with fail
    refine (noted_is w f mg n gt k hk c8 HMG.out).mono ?_
    rintro e w1 ⟨rfl, rfl⟩
    go_wp2_with fail
    go_ret
    exact ⟨rfl, rfl⟩
end Go.Proofs.YtpekbnkmnellpaaDoor
