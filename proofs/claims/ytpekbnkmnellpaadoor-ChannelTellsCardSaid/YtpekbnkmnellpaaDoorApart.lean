/-
  The walk of FlowApart. (UNDER WAY: does not build yet.)
-/
import Derived.Test.YtpekbnkmnellpaaDoorClash
import Derived.Test.YtpekbnkmnellpaaDoorAwakeW
import Derived.Test.YtpekbnkmnellpaaDoorRegAll
namespace Go.Proofs.YtpekbnkmnellpaaDoor
open Go.RowKit
set_option linter.unusedVariables false

theorem comm_lit (a b c e : Int) (dt : ByteArray) (w : World) (hp : (Pk.mk a b c dt e).ok) (G : Glob w) : Calls Tryd.prog 14 #[.agg #[.int .u64 a, .int .u64 b, .int .u64 c, .string dt, .int .u64 e]] w fun r w' => r = .returned (.string (Pk.mk a b c dt e).comm) ∧ Below w.heap.size w w' := commitment_is ⟨a, b, c, dt, e⟩ w G hp
theorem apart_keep {w W w2 : World} {N : Nat} {a b c e a' b' c' e' : Int} {dt dt' : ByteArray} (h0 : Blk W N 24 #[.int .u64 a, .int .u64 b, .int .u64 c, .string dt, .int .u64 e]) (h1 : Blk W (N + 1) 24 #[.int .u64 a', .int .u64 b', .int .u64 c', .string dt', .int .u64 e']) (hl : Below w.heap.size w W) (G : Glob W) (hb : Below W.heap.size W w2) :
    (w2.cell? ⟨N, 0, none⟩ = some (.int .u64 a) ∧ w2.cell? ⟨N, 1, none⟩ = some (.int .u64 b) ∧ w2.cell? ⟨N, 2, none⟩ = some (.int .u64 c) ∧ w2.cell? ⟨N, 3, none⟩ = some (.string dt) ∧ w2.cell? ⟨N, 4, none⟩ = some (.int .u64 e) ∧ w2.cell? ⟨N + 1, 0, none⟩ = some (.int .u64 a') ∧ w2.cell? ⟨N + 1, 1, none⟩ = some (.int .u64 b') ∧ w2.cell? ⟨N + 1, 2, none⟩ = some (.int .u64 c') ∧ w2.cell? ⟨N + 1, 3, none⟩ = some (.string dt') ∧ w2.cell? ⟨N + 1, 4, none⟩ = some (.int .u64 e')) ∧ Hid (Blk w2 N 24 #[.int .u64 a, .int .u64 b, .int .u64 c, .string dt, .int .u64 e] ∧ Blk w2 (N + 1) 24 #[.int .u64 a', .int .u64 b', .int .u64 c', .string dt', .int .u64 e'] ∧ Below w.heap.size w w2 ∧ Glob w2) := by
  have i0 := h0.below hb
  have i1 := h1.below hb
  exact ⟨⟨i0.cell 0, i0.cell 1, i0.cell 2, i0.cell 3, i0.cell 4, i1.cell 0, i1.cell 1, i1.cell 2, i1.cell 3, i1.cell 4⟩, Lib.hid ⟨i0, i1, bstep hl hb, G.below hb G.two⟩⟩
set_option maxRecDepth 100000 in
set_option maxHeartbeats 1000000 in
theorem apart_good (a b c d e a' b' c' d' e' : Int) (dt dt' s t : ByteArray) (w : World) (G : Glob w) (pe ce ae se : Bool) (tc : Hid (((Pk.mk a b c dt e).comm.toList == (Pk.mk a' b' c' dt' e').comm.toList) = ce)) (ta : Hid (((ansB s).toList == (ansB t).toList) = ae)) (ts : Hid ((s.toList == t.toList) = se)) (hgo : Hid (ce = pe ∧ ae = se)) (hs : s.size ≤ 140737488351232) (ht : t.size ≤ 140737488351232) (heq0 : Hid (∀ W, (Op.equalIn 10000 24 (.agg #[.int .u64 a, .int .u64 b, .int .u64 c, .string dt, .int .u64 e]) (.agg #[.int .u64 a', .int .u64 b', .int .u64 c', .string dt', .int .u64 e'])).run Tryd.prog W = .ok pe W)) (hp : (Pk.mk a b c dt e).ok) (hq : (Pk.mk a' b' c' dt' e').ok) :
    Calls Tryd.prog 3 #[.agg #[.int .u64 a, .int .u64 b, .int .u64 c, .string dt, .int .u64 e], .agg #[.int .u64 a', .int .u64 b', .int .u64 c', .string dt', .int .u64 e'], .string s, .string t] w fun r w' => r = .returned (.bool true) ∧ Below w.heap.size w w' := by
  have HG := Lib.hid G
  have HP := Lib.hid hp
  have HQ := Lib.hid hq
  clear G hp hq
  go_enter Tryd.func3, Tryd.ntmps3
  go_wp2_with fail
  have hb0 := (Blk.new w 24 #[.int .u64 a, .int .u64 b, .int .u64 c, .string dt, .int .u64 e]).alloc (.cells #[.int .u64 a', .int .u64 b', .int .u64 c', .string dt', .int .u64 e'] 24)
  have hb1 := Blk.new (w.alloc (.cells #[.int .u64 a, .int .u64 b, .int .u64 c, .string dt, .int .u64 e] 24)) 24 #[.int .u64 a', .int .u64 b', .int .u64 c', .string dt', .int .u64 e']
  rw [show (w.alloc (.cells #[.int .u64 a, .int .u64 b, .int .u64 c, .string dt, .int .u64 e] 24)).heap.size = w.heap.size + 1 by simp] at hb1
  have hl := balloc (balloc (Below.refl _ w) (.cells #[.int .u64 a, .int .u64 b, .int .u64 c, .string dt, .int .u64 e] 24)) (.cells #[.int .u64 a', .int .u64 b', .int .u64 c', .string dt', .int .u64 e'] 24)
  generalize (w.alloc (.cells #[.int .u64 a, .int .u64 b, .int .u64 c, .string dt, .int .u64 e] 24)).alloc (.cells #[.int .u64 a', .int .u64 b', .int .u64 c', .string dt', .int .u64 e'] 24) = w0 at hb0 hb1 hl ⊢
  refine (awake_ok w0 (HG.out.below hl HG.out.two)).mono ?_
  rintro r w1 ⟨rfl, hbw⟩
  have H0 := Lib.hid (hb0.below hbw)
  have H1 := Lib.hid (hb1.below hbw)
  have HL := Lib.hid (bstep hl hbw)
  have HG1 := Lib.hid (HG.out.below HL.out HG.out.two)
  clear hb0 hb1 hl hbw HG
  have p0 : w1.cell? ⟨w.heap.size, 0, none⟩ = some (.int .u64 a) := H0.out.cell 0
  have p1 : w1.cell? ⟨w.heap.size, 1, none⟩ = some (.int .u64 b) := H0.out.cell 1
  have p2 : w1.cell? ⟨w.heap.size, 2, none⟩ = some (.int .u64 c) := H0.out.cell 2
  have p3 : w1.cell? ⟨w.heap.size, 3, none⟩ = some (.string dt) := H0.out.cell 3
  have p4 : w1.cell? ⟨w.heap.size, 4, none⟩ = some (.int .u64 e) := H0.out.cell 4
  have q0 : w1.cell? ⟨w.heap.size + 1, 0, none⟩ = some (.int .u64 a') := H1.out.cell 0
  have q1 : w1.cell? ⟨w.heap.size + 1, 1, none⟩ = some (.int .u64 b') := H1.out.cell 1
  have q2 : w1.cell? ⟨w.heap.size + 1, 2, none⟩ = some (.int .u64 c') := H1.out.cell 2
  have q3 : w1.cell? ⟨w.heap.size + 1, 3, none⟩ = some (.string dt') := H1.out.cell 3
  have q4 : w1.cell? ⟨w.heap.size + 1, 4, none⟩ = some (.int .u64 e') := H1.out.cell 4
  have heq : ∀ W, (Op.equalIn 10000 24 (.agg #[.int .u64 a, .int .u64 b, .int .u64 c, .string dt, .int .u64 e]) (.agg #[.int .u64 a', .int .u64 b', .int .u64 c', .string dt', .int .u64 e'])).run Tryd.prog W = .ok pe W := heq0.out
  have tok1 : True := trivial
  go_upto_region 2 with fail
  go_region_held3 (fun w' => w'.cell? ⟨w.heap.size, 0, none⟩ = some (.int .u64 a) ∧ w'.cell? ⟨w.heap.size, 1, none⟩ = some (.int .u64 b) ∧ w'.cell? ⟨w.heap.size, 2, none⟩ = some (.int .u64 c) ∧ w'.cell? ⟨w.heap.size, 3, none⟩ = some (.string dt) ∧ w'.cell? ⟨w.heap.size, 4, none⟩ = some (.int .u64 e) ∧ w'.cell? ⟨w.heap.size + 1, 0, none⟩ = some (.int .u64 a') ∧ w'.cell? ⟨w.heap.size + 1, 1, none⟩ = some (.int .u64 b') ∧ w'.cell? ⟨w.heap.size + 1, 2, none⟩ = some (.int .u64 c') ∧ w'.cell? ⟨w.heap.size + 1, 3, none⟩ = some (.string dt') ∧ w'.cell? ⟨w.heap.size + 1, 4, none⟩ = some (.int .u64 e')) (first | go_keep | with_reducible exact hS2 | with_reducible exact hS3)
    (first | (go_at_call 14; have _t := tok1; refine (comm_lit a b c e dt w1.drew HP.out ⟨HG1.out.k, HG1.out.first⟩).mono ?_; rintro r w2 ⟨rfl, hb2⟩; obtain ⟨hS2, HM2⟩ := apart_keep H0.out.drew H1.out.drew HL.out.drew ⟨HG1.out.k, HG1.out.first⟩ hb2; clear tok1 p0 p1 p2 p3 p4 q0 q1 q2 q3 q4) | (go_at_call 14; refine (comm_lit a' b' c' e' dt' w2 HQ.out HM2.out.2.2.2).mono ?_; rintro r w3 ⟨rfl, hb3⟩; obtain ⟨hS3, HM3⟩ := apart_keep HM2.out.1 HM2.out.2.1 HM2.out.2.2.1 HM2.out.2.2.2 hb3; clear hS2))
  clear H0 H1 HL HG1 HM2 hS3
  have tc0 := tc.out
  have ta0 := ta.out
  have ts0 := ts.out
  generalize Pk.comm ⟨a, b, c, dt, e⟩ = Cp at tc0 ⊢
  generalize Pk.comm ⟨a', b', c', dt', e'⟩ = Cq at tc0 ⊢
  go_wp2_with fail
  refine (answer_is s w3 HM3.out.2.2.2 hs).mono ?_
  rintro r w4 ⟨rfl, hb4⟩
  obtain ⟨_, HM4⟩ := apart_keep HM3.out.1 HM3.out.2.1 HM3.out.2.2.1 HM3.out.2.2.2 hb4
  clear hb4 HM3
  go_wp2_with fail
  refine (answer_is t w4 HM4.out.2.2.2 ht).mono ?_
  rintro r w5 ⟨rfl, hb5⟩
  obtain ⟨_, HM5⟩ := apart_keep HM4.out.1 HM4.out.2.1 HM4.out.2.2.1 HM4.out.2.2.2 hb5
  clear hb5 HM4
  generalize ansB s = As at ta0 ⊢
  generalize ansB t = At at ta0 ⊢
  have p0 : w5.cell? ⟨w.heap.size, 0, none⟩ = some (.int .u64 a) := HM5.out.1.cell 0
  obtain ⟨h1, h2⟩ := hgo.out
  subst h1 h2
  cases ce <;> cases ae
  all_goals
    go_wp2_with fail
    go_ret
    exact ⟨rfl, HM5.out.2.2.1⟩
/-- what the last region's operations yield -/
def apV (p q : Pk) (s t : ByteArray) (j : Nat) (v : Value) (W : World) : Prop := match j with
  | 2 => v = p.v
  | 3 => v = .string ⟨p.inp.toArray⟩
  | 4 => v = q.v
  | 5 => v = .string ⟨q.inp.toArray⟩
  | 6 => v = .string s
  | 7 => ∃ g, v = .slice (some ⟨g, 0, none⟩) 1 1 ∧ Blk W g 9 #[.string s]
  | 8 => v = .string ⟨(inpL 14 [s]).toArray⟩
  | 9 => v = .string t
  | 10 => ∃ g, v = .slice (some ⟨g, 0, none⟩) 1 1 ∧ Blk W g 9 #[.string t]
  | 11 => v = .string ⟨(inpL 14 [t]).toArray⟩
  | 12 => ∃ g, v = .slice (some ⟨g, 0, none⟩) 4 4 ∧ Blk W g 9 #[.string ⟨p.inp.toArray⟩, .string ⟨q.inp.toArray⟩, .string ⟨(inpL 14 [s]).toArray⟩, .string ⟨(inpL 14 [t]).toArray⟩]
  | _ => v = .bool true
theorem apV_mono (p q : Pk) (s t : ByteArray) (W W' : World) (j : Nat) (v : Value) (hE : Below W.heap.size W W') (h : apV p q s t j v W) : apV p q s t j v W' := by
  unfold apV at h ⊢
  split at h <;> first | exact h | (obtain ⟨g, h1, h2⟩ := h; exact ⟨g, h1, h2.below hE⟩)
/-- the world between the last region's operations -/
structure ApI (p q : Pk) (w : World) (N : Nat) (W : World) : Prop where
  p : Blk W N 24 p.cs
  q : Blk W (N + 1) 24 q.cs
  l : Below w.heap.size w W
  g : Glob W
theorem ApI.below {p q : Pk} {w : World} {N : Nat} {W W' : World} (h : ApI p q w N W) (hb : Below W.heap.size W W') : ApI p q w N W' := ⟨h.p.below hb, h.q.below hb, bstep h.l hb, h.g.below hb h.g.two⟩
theorem load_pk (p : Pk) (g : Nat) (W : World) (h : Blk W g 24 p.cs) : (Instr.loadAt 24 (.pointer (some ⟨g, 0, none⟩))).run Tryd.prog W = .ok p.v W := by
  have c0 : W.cell? ⟨g, 0, none⟩ = some (.int .u64 p.seq) := h.cell 0
  have c1 : W.cell? ⟨g, 1, none⟩ = some (.int .u64 p.src) := h.cell 1
  have c2 : W.cell? ⟨g, 2, none⟩ = some (.int .u64 p.dst) := h.cell 2
  have c3 : W.cell? ⟨g, 3, none⟩ = some (.string p.data) := h.cell 3
  have c4 : W.cell? ⟨g, 4, none⟩ = some (.int .u64 p.timeout) := h.cell 4
  unfold Pk.v
  go_simp
theorem bsl1 (s : ByteArray) (W : World) : (Instr.buildSlice 30 1 #[(0, .string s)]).run Tryd.prog W = .ok (.slice (some ⟨W.heap.size, 0, none⟩) 1 1) (W.alloc (.cells #[.string s] 9)) := by go_simp
theorem bsl4 (s0 s1 s2 s3 : ByteArray) (W : World) : (Instr.buildSlice 30 4 #[(0, .string s0), (1, .string s1), (2, .string s2), (3, .string s3)]).run Tryd.prog W = .ok (.slice (some ⟨W.heap.size, 0, none⟩) 4 4) (W.alloc (.cells #[.string s0, .string s1, .string s2, .string s3] 9)) := by go_simp
/-- the four texts of the last region, two of them unlike with one sum -/
theorem clash4 (p q : Pk) (s t : ByteArray) (g : Nat) (W : World) (G : Glob W) (hp : p.ok) (hq : q.ok) (hs : s.size ≤ 140737488351232) (ht : t.size ≤ 140737488351232) (hb : Blk W g 9 #[.string ⟨p.inp.toArray⟩, .string ⟨q.inp.toArray⟩, .string ⟨(inpL 14 [s]).toArray⟩, .string ⟨(inpL 14 [t]).toArray⟩])
    (hx : (p ≠ q ∧ p.comm = q.comm) ∨ (s ≠ t ∧ ansB s = ansB t)) :
    Calls Tryd.prog 16 #[.slice (some ⟨g, 0, none⟩) 4 4] W fun e w' => e = .returned (.bool true) ∧ Below W.heap.size W w' := by
  have hl : ∀ l : List UInt8, (⟨l.toArray⟩ : ByteArray).size = l.length := fun l => List.size_toArray ..
  refine clash_is [⟨p.inp.toArray⟩, ⟨q.inp.toArray⟩, ⟨(inpL 14 [s]).toArray⟩, ⟨(inpL 14 [t]).toArray⟩] g 4 W G hb.lt ?_ (by simp) ?_ ?_
  · intro j hj
    rw [hb.cell j]
    match j, hj with
    | 0, _ => rfl
    | 1, _ => rfl
    | 2, _ => rfl
    | 3, _ => rfl
  · intro x hx
    simp only [List.mem_cons, List.not_mem_nil, or_false] at hx
    have h1 := hp.data
    have h2 := hq.data
    rcases hx with rfl | rfl | rfl | rfl
    · rw [hl, Pk.inp_len]; omega
    · rw [hl, Pk.inp_len]; omega
    · rw [hl, inp14_len]; omega
    · rw [hl, inp14_len]; omega
  · intro hno
    rcases hx with ⟨hne, he⟩ | ⟨hne, he⟩
    · have := hno 1 0 (by simp) (by simp) (by simp) (by simp) he.symm
      exact hne (Pk.inp_inj hp hq (by have := congrArg (fun x : ByteArray => x.data.toList) this.symm; simpa using this))
    · have := hno 3 2 (by simp) (by simp) (by simp) (by simp) he.symm
      exact hne (inp14_inj (by have := congrArg (fun x : ByteArray => x.data.toList) this.symm; simpa using this))
set_option maxRecDepth 100000 in
set_option maxHeartbeats 1000000 in
theorem apart_bad (a b c d e a' b' c' d' e' : Int) (dt dt' s t : ByteArray) (w : World) (G : Glob w) (pe ce ae se : Bool) (tc : Hid (((Pk.mk a b c dt e).comm.toList == (Pk.mk a' b' c' dt' e').comm.toList) = ce)) (ta : Hid (((ansB s).toList == (ansB t).toList) = ae)) (ts : Hid ((s.toList == t.toList) = se)) (hgo : Hid ((pe = false ∧ ce = true ∧ (se = true → ae = true)) ∨ (se = false ∧ ae = true ∧ (pe = true → ce = true)))) (hx : Hid ((Pk.mk a b c dt e ≠ Pk.mk a' b' c' dt' e' ∧ (Pk.mk a b c dt e).comm = (Pk.mk a' b' c' dt' e').comm) ∨ (s ≠ t ∧ ansB s = ansB t))) (hs : s.size ≤ 140737488351232) (ht : t.size ≤ 140737488351232) (heq0 : Hid (∀ W, (Op.equalIn 10000 24 (.agg #[.int .u64 a, .int .u64 b, .int .u64 c, .string dt, .int .u64 e]) (.agg #[.int .u64 a', .int .u64 b', .int .u64 c', .string dt', .int .u64 e'])).run Tryd.prog W = .ok pe W)) (hp : (Pk.mk a b c dt e).ok) (hq : (Pk.mk a' b' c' dt' e').ok) :
    Calls Tryd.prog 3 #[.agg #[.int .u64 a, .int .u64 b, .int .u64 c, .string dt, .int .u64 e], .agg #[.int .u64 a', .int .u64 b', .int .u64 c', .string dt', .int .u64 e'], .string s, .string t] w fun r w' => r = .returned (.bool true) ∧ Below w.heap.size w w' := by
  have HG := Lib.hid G
  have HP := Lib.hid hp
  have HQ := Lib.hid hq
  clear G hp hq
  go_enter Tryd.func3, Tryd.ntmps3
  go_wp2_with fail
  have hb0 := (Blk.new w 24 #[.int .u64 a, .int .u64 b, .int .u64 c, .string dt, .int .u64 e]).alloc (.cells #[.int .u64 a', .int .u64 b', .int .u64 c', .string dt', .int .u64 e'] 24)
  have hb1 := Blk.new (w.alloc (.cells #[.int .u64 a, .int .u64 b, .int .u64 c, .string dt, .int .u64 e] 24)) 24 #[.int .u64 a', .int .u64 b', .int .u64 c', .string dt', .int .u64 e']
  rw [show (w.alloc (.cells #[.int .u64 a, .int .u64 b, .int .u64 c, .string dt, .int .u64 e] 24)).heap.size = w.heap.size + 1 by simp] at hb1
  have hl := balloc (balloc (Below.refl _ w) (.cells #[.int .u64 a, .int .u64 b, .int .u64 c, .string dt, .int .u64 e] 24)) (.cells #[.int .u64 a', .int .u64 b', .int .u64 c', .string dt', .int .u64 e'] 24)
  generalize (w.alloc (.cells #[.int .u64 a, .int .u64 b, .int .u64 c, .string dt, .int .u64 e] 24)).alloc (.cells #[.int .u64 a', .int .u64 b', .int .u64 c', .string dt', .int .u64 e'] 24) = w0 at hb0 hb1 hl ⊢
  refine (awake_ok w0 (HG.out.below hl HG.out.two)).mono ?_
  rintro r w1 ⟨rfl, hbw⟩
  have H0 := Lib.hid (hb0.below hbw)
  have H1 := Lib.hid (hb1.below hbw)
  have HL := Lib.hid (bstep hl hbw)
  have HG1 := Lib.hid (HG.out.below HL.out HG.out.two)
  clear hb0 hb1 hl hbw HG
  have p0 : w1.cell? ⟨w.heap.size, 0, none⟩ = some (.int .u64 a) := H0.out.cell 0
  have p1 : w1.cell? ⟨w.heap.size, 1, none⟩ = some (.int .u64 b) := H0.out.cell 1
  have p2 : w1.cell? ⟨w.heap.size, 2, none⟩ = some (.int .u64 c) := H0.out.cell 2
  have p3 : w1.cell? ⟨w.heap.size, 3, none⟩ = some (.string dt) := H0.out.cell 3
  have p4 : w1.cell? ⟨w.heap.size, 4, none⟩ = some (.int .u64 e) := H0.out.cell 4
  have q0 : w1.cell? ⟨w.heap.size + 1, 0, none⟩ = some (.int .u64 a') := H1.out.cell 0
  have q1 : w1.cell? ⟨w.heap.size + 1, 1, none⟩ = some (.int .u64 b') := H1.out.cell 1
  have q2 : w1.cell? ⟨w.heap.size + 1, 2, none⟩ = some (.int .u64 c') := H1.out.cell 2
  have q3 : w1.cell? ⟨w.heap.size + 1, 3, none⟩ = some (.string dt') := H1.out.cell 3
  have q4 : w1.cell? ⟨w.heap.size + 1, 4, none⟩ = some (.int .u64 e') := H1.out.cell 4
  have heq : ∀ W, (Op.equalIn 10000 24 (.agg #[.int .u64 a, .int .u64 b, .int .u64 c, .string dt, .int .u64 e]) (.agg #[.int .u64 a', .int .u64 b', .int .u64 c', .string dt', .int .u64 e'])).run Tryd.prog W = .ok pe W := heq0.out
  have tok1 : True := trivial
  go_upto_region 2 with fail
  go_region_held3 (fun w' => w'.cell? ⟨w.heap.size, 0, none⟩ = some (.int .u64 a) ∧ w'.cell? ⟨w.heap.size, 1, none⟩ = some (.int .u64 b) ∧ w'.cell? ⟨w.heap.size, 2, none⟩ = some (.int .u64 c) ∧ w'.cell? ⟨w.heap.size, 3, none⟩ = some (.string dt) ∧ w'.cell? ⟨w.heap.size, 4, none⟩ = some (.int .u64 e) ∧ w'.cell? ⟨w.heap.size + 1, 0, none⟩ = some (.int .u64 a') ∧ w'.cell? ⟨w.heap.size + 1, 1, none⟩ = some (.int .u64 b') ∧ w'.cell? ⟨w.heap.size + 1, 2, none⟩ = some (.int .u64 c') ∧ w'.cell? ⟨w.heap.size + 1, 3, none⟩ = some (.string dt') ∧ w'.cell? ⟨w.heap.size + 1, 4, none⟩ = some (.int .u64 e')) (first | go_keep | with_reducible exact hS2 | with_reducible exact hS3)
    (first | (go_at_call 14; have _t := tok1; refine (comm_lit a b c e dt w1.drew HP.out ⟨HG1.out.k, HG1.out.first⟩).mono ?_; rintro r w2 ⟨rfl, hb2⟩; obtain ⟨hS2, HM2⟩ := apart_keep H0.out.drew H1.out.drew HL.out.drew ⟨HG1.out.k, HG1.out.first⟩ hb2; clear tok1 p0 p1 p2 p3 p4 q0 q1 q2 q3 q4) | (go_at_call 14; refine (comm_lit a' b' c' e' dt' w2 HQ.out HM2.out.2.2.2).mono ?_; rintro r w3 ⟨rfl, hb3⟩; obtain ⟨hS3, HM3⟩ := apart_keep HM2.out.1 HM2.out.2.1 HM2.out.2.2.1 HM2.out.2.2.2 hb3; clear hS2))
  clear H0 H1 HL HG1 HM2 hS3
  have tc0 := tc.out
  have ta0 := ta.out
  have ts0 := ts.out
  generalize Pk.comm ⟨a, b, c, dt, e⟩ = Cp at tc0 ⊢
  generalize Pk.comm ⟨a', b', c', dt', e'⟩ = Cq at tc0 ⊢
  go_wp2_with fail
  refine (answer_is s w3 HM3.out.2.2.2 hs).mono ?_
  rintro r w4 ⟨rfl, hb4⟩
  obtain ⟨_, HM4⟩ := apart_keep HM3.out.1 HM3.out.2.1 HM3.out.2.2.1 HM3.out.2.2.2 hb4
  clear hb4 HM3
  go_wp2_with fail
  refine (answer_is t w4 HM4.out.2.2.2 ht).mono ?_
  rintro r w5 ⟨rfl, hb5⟩
  obtain ⟨_, HM5⟩ := apart_keep HM4.out.1 HM4.out.2.1 HM4.out.2.2.1 HM4.out.2.2.2 hb5
  clear hb5 HM4
  generalize ansB s = As at ta0 ⊢
  generalize ansB t = At at ta0 ⊢
  have p0 : w5.cell? ⟨w.heap.size, 0, none⟩ = some (.int .u64 a) := HM5.out.1.cell 0
  have q0 : w5.cell? ⟨w.heap.size + 1, 0, none⟩ = some (.int .u64 a') := HM5.out.2.1.cell 0
  have p1 : w5.cell? ⟨w.heap.size, 1, none⟩ = some (.int .u64 b) := HM5.out.1.cell 1
  have p2 : w5.cell? ⟨w.heap.size, 2, none⟩ = some (.int .u64 c) := HM5.out.1.cell 2
  have p3 : w5.cell? ⟨w.heap.size, 3, none⟩ = some (.string dt) := HM5.out.1.cell 3
  have p4 : w5.cell? ⟨w.heap.size, 4, none⟩ = some (.int .u64 e) := HM5.out.1.cell 4
  have q1 : w5.cell? ⟨w.heap.size + 1, 1, none⟩ = some (.int .u64 b') := HM5.out.2.1.cell 1
  have q2 : w5.cell? ⟨w.heap.size + 1, 2, none⟩ = some (.int .u64 c') := HM5.out.2.1.cell 2
  have q3 : w5.cell? ⟨w.heap.size + 1, 3, none⟩ = some (.string dt') := HM5.out.2.1.cell 3
  have q4 : w5.cell? ⟨w.heap.size + 1, 4, none⟩ = some (.int .u64 e') := HM5.out.2.1.cell 4
  cases pe <;> cases ce <;> cases ae <;> cases se <;> first | (exfalso; have := hgo.out; simp at this; done) | skip
  all_goals
    go_upto_region 8 with fail
    refine wp_abs fun a0 hA => ?_
    have h9 : a0.eval (.tmp 9) = .bool true := by rw [hA]; rfl
    have h4 : a0.eval (.tmp 4) = .pointer (some ⟨w.heap.size, 0, none⟩) := by rw [hA]; rfl
    have h5 : a0.eval (.tmp 5) = .pointer (some ⟨w.heap.size + 1, 0, none⟩) := by rw [hA]; rfl
    have h2 : a0.eval (.tmp 2) = .string s := by rw [hA]; rfl
    have h3 : a0.eval (.tmp 3) = .string t := by rw [hA]; rfl
    have hz : a0.tmps.size = 67 := by rw [hA]; rfl
    refine wp_region_steps [some 52, some 53, some 54, some 55, some 56, some 57, some 58, some 59, some 60, some 61, some 62, some 63, some 64, some 65, some 66, some 8] 67 (apV ⟨a, b, c, dt, e⟩ ⟨a', b', c', dt', e'⟩ s t) (ApI ⟨a, b, c, dt, e⟩ ⟨a', b', c', dt', e'⟩ w w.heap.size) (fun W W' => Below W.heap.size W W') (by kernel_rfl) (by kernel_rfl) (by kernel_rfl) rfl (by kernel_rfl) hz ⟨HM5.out.1, HM5.out.2.1, HM5.out.2.2.1.drew, ⟨HM5.out.2.2.2.k, HM5.out.2.2.2.first⟩⟩ (fun W W' j v _ _ hE h => apV_mono _ _ _ _ W W' j v hE h) ?_ ⟨?_, ?_, ?_, ?_, ?_, ?_, ?_, ?_, ?_, ?_, ?_, ?_, ?_, ?_, ?_, ?_, trivial⟩
    · intro u W hI hv
      rw [hA]
      simp only [putAll, Act.put, List.setIfInBounds_toArray, List.set_cons_zero, List.set_cons_succ]
      have e15 : u 15 = .bool true := hv 15 (by decide)
      rw [e15]
      go_wp2_with fail
      go_ret
      exact ⟨rfl, hI.l⟩
    · exact SStep.plain rfl fun ρ u W he hI hd => swp_val (run_move (he.o h9 rfl)) ⟨hI, Below.refl _ _, rfl⟩
    · exact SStep.plain rfl fun ρ u W he hI hd => swp_val (run_move (he.i hz (hd 0 (by kernel_rfl)) (j := 0) (d := 52) rfl (by decide))) ⟨hI, Below.refl _ _, rfl⟩
    · exact SStep.on 1 true rfl (by kernel_rfl) (fun v W h => h) fun ρ u W he hI hd => swp_val (run_load (he.o h4 rfl) (load_pk _ _ W hI.p)) ⟨hI, Below.refl _ _, rfl⟩
    · exact SStep.on 1 true rfl (by kernel_rfl) (fun v W h => h) fun ρ u W he hI hd => swp_call (run_call #[(Pk.mk a b c dt e).v] (he.func _) (by kernel_rfl) (map1 (he.i hz (hd 2 (by kernel_rfl)) (j := 2) (d := 54) rfl (by decide)))) (inp_is _ W HP.out) (fun r W' h => ⟨_, h.1, hI.below h.2, h.2, rfl⟩)
    · exact SStep.on 1 true rfl (by kernel_rfl) (fun v W h => h) fun ρ u W he hI hd => swp_val (run_load (he.o h5 rfl) (load_pk _ _ W hI.q)) ⟨hI, Below.refl _ _, rfl⟩
    · exact SStep.on 1 true rfl (by kernel_rfl) (fun v W h => h) fun ρ u W he hI hd => swp_call (run_call #[(Pk.mk a' b' c' dt' e').v] (he.func _) (by kernel_rfl) (map1 (he.i hz (hd 4 (by kernel_rfl)) (j := 4) (d := 56) rfl (by decide)))) (inp_is _ W HQ.out) (fun r W' h => ⟨_, h.1, hI.below h.2, h.2, rfl⟩)
    · exact SStep.on 1 true rfl (by kernel_rfl) (fun v W h => h) fun ρ u W he hI hd => swp_val (run_move (he.o h2 rfl)) ⟨hI, Below.refl _ _, rfl⟩
    · exact SStep.on 1 true rfl (by kernel_rfl) (fun v W h => h) fun ρ u W he hI hd => swp_val (run_bslice #[(0, .string s)] (pairs1 (he.i hz (hd 6 (by kernel_rfl)) (j := 6) (d := 58) rfl (by decide))) (bsl1 s W)) ⟨hI.below (balloc (Below.refl _ W) _), balloc (Below.refl _ W) _, ⟨_, rfl, Blk.new W _ _⟩⟩
    · refine SStep.on 1 true rfl (by kernel_rfl) (fun v W h => h) fun ρ u W he hI hd => ?_
      obtain ⟨g, hg, hbg⟩ := hd 7 (by kernel_rfl)
      exact swp_call (run_call #[.int .u8 14, .slice (some ⟨g, 0, none⟩) 1 1] (he.func _) (by kernel_rfl) (map2 (he.const _) (he.i hz hg (d := 59) rfl (by decide)))) (rinp14 s g W hbg (by rw [inp14_len]; omega)) (fun r W' h => ⟨_, h.1, hI.below h.2, h.2, rfl⟩)
    · exact SStep.on 1 true rfl (by kernel_rfl) (fun v W h => h) fun ρ u W he hI hd => swp_val (run_move (he.o h3 rfl)) ⟨hI, Below.refl _ _, rfl⟩
    · exact SStep.on 1 true rfl (by kernel_rfl) (fun v W h => h) fun ρ u W he hI hd => swp_val (run_bslice #[(0, .string t)] (pairs1 (he.i hz (hd 9 (by kernel_rfl)) (j := 9) (d := 61) rfl (by decide))) (bsl1 t W)) ⟨hI.below (balloc (Below.refl _ W) _), balloc (Below.refl _ W) _, ⟨_, rfl, Blk.new W _ _⟩⟩
    · refine SStep.on 1 true rfl (by kernel_rfl) (fun v W h => h) fun ρ u W he hI hd => ?_
      obtain ⟨g, hg, hbg⟩ := hd 10 (by kernel_rfl)
      exact swp_call (run_call #[.int .u8 14, .slice (some ⟨g, 0, none⟩) 1 1] (he.func _) (by kernel_rfl) (map2 (he.const _) (he.i hz hg (d := 62) rfl (by decide)))) (rinp14 t g W hbg (by rw [inp14_len]; omega)) (fun r W' h => ⟨_, h.1, hI.below h.2, h.2, rfl⟩)
    · exact SStep.on 1 true rfl (by kernel_rfl) (fun v W h => h) fun ρ u W he hI hd => swp_val (run_bslice _ (pairs4 (he.i hz (hd 3 (by kernel_rfl)) (j := 3) (d := 55) rfl (by decide)) (he.i hz (hd 5 (by kernel_rfl)) (j := 5) (d := 57) rfl (by decide)) (he.i hz (hd 8 (by kernel_rfl)) (j := 8) (d := 60) rfl (by decide)) (he.i hz (hd 11 (by kernel_rfl)) (j := 11) (d := 63) rfl (by decide))) (bsl4 _ _ _ _ W)) ⟨hI.below (balloc (Below.refl _ W) _), balloc (Below.refl _ W) _, ⟨_, rfl, Blk.new W _ _⟩⟩
    · refine SStep.on 1 true rfl (by kernel_rfl) (fun v W h => h) fun ρ u W he hI hd => ?_
      obtain ⟨g, hg, hbg⟩ := hd 12 (by kernel_rfl)
      exact swp_call (run_call #[.slice (some ⟨g, 0, none⟩) 4 4] (he.func _) (by kernel_rfl) (map1 (he.i hz hg (d := 64) rfl (by decide)))) (clash4 _ _ s t g W hI.g HP.out HQ.out hs ht hbg hx.out) (fun r W' h => ⟨_, h.1, hI.below h.2, h.2, rfl⟩)
    · exact SStep.plain rfl fun ρ u W he hI hd => swp_val (run_pick_t (he.i hz (hd 1 (by kernel_rfl)) (j := 1) (d := 53) rfl (by decide)) (he.i hz (hd 13 (by kernel_rfl)) (j := 13) (d := 65) rfl (by decide))) ⟨hI, Below.refl _ _, rfl⟩
    · exact SStep.plain rfl fun ρ u W he hI hd => swp_val (run_assign (he.i hz (hd 14 (by kernel_rfl)) (j := 14) (d := 66) rfl (by decide))) ⟨hI, Below.refl _ _, rfl⟩
end Go.Proofs.YtpekbnkmnellpaaDoor
