/-
  FlowPlays: a Send.
-/
import Derived.Test.YtpekbnkmnellpaaDoorPlayB
namespace Go.Proofs.YtpekbnkmnellpaaDoor
open Go.RowKit Go.Maps
set_option linter.unusedVariables false
/-- two calls in whatever order: the flow's, the document's -/
def pS2 (w : World) (B : FB) (g : Nat) (V : Value) (ps : List Pk) (a a' b b' : Fl) (m m' n n' X : Nat) (xc : Array Value) (Y : Nat) (p : Pk) (x y : Bool) (W : World) : Prop :=
  PW w B g V ps (bif x then a' else a) (bif y then b' else b) (bif x then m' else m) (bif y then n' else n) W ∧ Blk W X 48 xc ∧ Blk W Y 24 p.cs
section
variable {w W W' : World} {B : FB} {g : Nat} {V : Value} {ps : List Pk} {a a' b b' : Fl} {m m' n n' X Y : Nat} {xc : Array Value} {p : Pk} {x y : Bool}
theorem pS2_A (h : pS2 w B g V ps a a' b b' m m' n n' X xc Y p false y W) (hf : FlowAt W' B m' a') (ho : Only B.l W W') : pS2 w B g V ps a a' b b' m m' n n' X xc Y p true y W' := ⟨h.1.onlyA hf ho, h.1.blkA ho h.2.1 (by decide), h.1.blkA ho h.2.2 (by decide)⟩
theorem pS2_B (h : pS2 w B g V ps a a' b b' m m' n n' X xc Y p x false W) (hd : DStep W W' w.heap.size g n' b') : pS2 w B g V ps a a' b b' m m' n n' X xc Y p x true W' := ⟨h.1.onlyR hd, hd.blk h.2.1 (by decide) (by decide), hd.blk h.2.2 (by decide) (by decide)⟩
end
end Go.Proofs.YtpekbnkmnellpaaDoor
namespace Go.Proofs.YtpekbnkmnellpaaDoor
open Go.RowKit Go.Maps
set_option linter.unusedVariables false
/-- a Send: the flows by x and y, the blocks Q stand, a block is made (al) and filled (st) -/
def pS3 (w : World) (B : FB) (g : Nat) (V : Value) (ps : List Pk) (a a' b b' : Fl) (m m' n n' X : Nat) (xc : Array Value) (Y : Nat) (p : Pk) (Q : List Nat) (pk : Pk) (v : Value) (x y al st : Bool) (W : World) : Prop :=
  pS2 w B g V ps a a' b b' m m' n n' X xc Y p x y W ∧ (∀ q ∈ Q, Blk W q 24 pk.cs) ∧
    (al = true → ∃ q, v = .pointer (some ⟨q, 0, none⟩) ∧ Blk W q 24 (bif st then pk.cs else Pk.zero.cs) ∧ w.heap.size ≤ q ∧ Y ≠ q ∧ (∀ z, V.ownBlock = some z → z ≠ q) ∧ q ∉ Q)
section
variable {w W W' : World} {B : FB} {g : Nat} {V v : Value} {ps : List Pk} {a a' b b' : Fl} {m m' n n' X Y : Nat} {xc : Array Value} {p pk : Pk} {Q : List Nat} {x y al st : Bool}
theorem pS3_A (h : pS3 w B g V ps a a' b b' m m' n n' X xc Y p Q pk v false y al st W) (hf : FlowAt W' B m' a') (ho : Only B.l W W') : pS3 w B g V ps a a' b b' m m' n n' X xc Y p Q pk v true y al st W' := by
  refine ⟨pS2_A h.1 hf ho, fun q hq => h.1.1.blkA ho (h.2.1 q hq) (by decide), fun hal => ?_⟩
  obtain ⟨q, h1, h2, h3⟩ := h.2.2 hal
  exact ⟨q, h1, h.1.1.blkA ho h2 (by decide), h3⟩
theorem pS3_B (h : pS3 w B g V ps a a' b b' m m' n n' X xc Y p Q pk v x false al st W) (hd : DStep W W' w.heap.size g n' b') : pS3 w B g V ps a a' b b' m m' n n' X xc Y p Q pk v x true al st W' := by
  refine ⟨pS2_B h.1 hd, fun q hq => hd.blk (h.2.1 q hq) (by decide) (by decide), fun hal => ?_⟩
  obtain ⟨q, h1, h2, h3⟩ := h.2.2 hal
  exact ⟨q, h1, hd.blk h2 (by decide) (by decide), h3⟩
theorem pS3_make (h : pS3 w B g V ps a a' b b' m m' n n' X xc Y p Q pk v x y false false W) : pS3 w B g V ps a a' b b' m m' n n' X xc Y p Q pk (.pointer (some ⟨W.heap.size, 0, none⟩)) x y true false (W.alloc (.cells Pk.zero.cs 24)) := by
  have hb := balloc (Below.refl _ W) (.cells Pk.zero.cs 24)
  refine ⟨⟨h.1.1.below hb, h.1.2.1.below hb, h.1.2.2.below hb⟩, fun q hq => (h.2.1 q hq).below hb, fun _ => ⟨W.heap.size, rfl, Blk.new W _ _, h.1.1.bel.size, ?_, fun z hz => ?_, fun hq => ?_⟩⟩
  · have := h.1.2.2.lt; omega
  · have := (World.ownsRow.lt h.1.1.row z hz).2; omega
  · have := (h.2.1 _ hq).lt; omega
theorem pS3_fill (h : pS3 w B g V ps a a' b b' m m' n n' X xc Y p Q pk v x y true false W) : ∃ q, v = .pointer (some ⟨q, 0, none⟩) ∧ Blk W q 24 Pk.zero.cs ∧ pS3 w B g V ps a a' b b' m m' n n' X xc Y p Q pk v x y true true (setC5 W q (.int .u64 pk.seq) (.int .u64 pk.src) (.int .u64 pk.dst) (.string pk.data) (.int .u64 pk.timeout)) := by
  obtain ⟨q, h1, h2, h3, h4, h5, h6⟩ := h.2.2 rfl
  have h2' : Blk W q 24 Pk.zero.cs := h2
  have ho := only_set5 W q (.int .u64 pk.seq) (.int .u64 pk.src) (.int .u64 pk.dst) (.string pk.data) (.int .u64 pk.timeout)
  refine ⟨q, h1, h2, ⟨⟨h.1.1.setY h2' h5 h3 _ _ _ _ _, h.1.2.1.only ho fun hm => ?_, h.1.2.2.only ho fun hm => ?_⟩, fun z hz => (h.2.1 z hz).only ho fun hm => ?_, fun _ => ⟨q, h1, h2'.set5 _ _ _ _ _, h3, h4, h5, h6⟩⟩⟩
  · have h7 := h.1.2.1
    rw [show X = q by simpa using hm] at h7
    unfold Blk at h7 h2'
    rw [h2'] at h7
    simp at h7
  · exact h4 (by simpa using hm)
  · rw [show z = q by simpa using hm] at hz
    exact h6 hz
theorem pS3_x (h : pS3 w B g V ps a a' b b' m m' n n' X xc Y p Q pk v x y al st W) : Blk W X 48 xc := h.1.2.1
end
theorem conv_wr (x : Int) (W : World) : (convert 3 22 (.int .i64 x)).run Tryd.prog W = .ok (.int .u64 (IntKind.u64.wrap x)) W := by
  simp [go_sem]
theorem run_ext {P : Program} {ρ : Operand → Value} {w w' : World} {dst : Option Tmp} {t : TypeId} {pos : String} {af : Array Edge} {g : Option (Nat × Bool)} {f : Nat} {x1 v : Value} {x : Operand} (hx : ρ x = x1) (h : (Instr.extract x1 f).run P w = .ok v w') : (execOp ρ ⟨dst, .extract x f, t, pos, af, g⟩).run P w = .ok (.value v) w' := run_extract hx h
theorem ex0 (a b : Value) (W : World) : (Instr.extract (.tuple #[a, b]) 0).run Tryd.prog W = .ok a W := by go_simp
theorem ex1 (a b : Value) (W : World) : (Instr.extract (.tuple #[a, b]) 1).run Tryd.prog W = .ok b W := by go_simp
theorem mp5 {f : Operand → Value} {x y z q r : Operand} {x1 x2 x3 x4 x5 : Value} (h : f x = x1) (h2 : f y = x2) (h3 : f z = x3) (h4 : f q = x4) (h5 : f r = x5) : #[x, y, z, q, r].map f = #[x1, x2, x3, x4, x5] := by simp [h, h2, h3, h4, h5]
end Go.Proofs.YtpekbnkmnellpaaDoor
namespace Go.Proofs.YtpekbnkmnellpaaDoor
open Go.RowKit Go.Maps
set_option linter.unusedVariables false
def plyzero23V (f g X : Nat) (which later a9 sc : Int) (dt : ByteArray) (pk : Pk) (i : Nat) (v : Value) : Prop := match i with
  | 0 => v = .pointer (some ⟨f, 0, none⟩)
  | 1 => v = .pointer (some ⟨X, 1, none⟩)
  | 2 => v = .int .i64 which
  | 3 => v = .int .u64 (IntKind.u64.wrap which)
  | 4 => v = .pointer (some ⟨X, 3, none⟩)
  | 5 => v = .string dt
  | 6 => v = .pointer (some ⟨X, 2, none⟩)
  | 7 => v = .int .i64 later
  | 8 => v = .int .i64 a9
  | 9 => v = .int .u64 a9
  | 10 => v = .tuple #[pk.v, .int .i64 sc]
  | 11 => v = .tuple #[pk.v, .int .i64 sc]
  | 12 => v = pk.v
  | 13 => v = .int .i64 sc
  | 16 => v = .int .i64 sc
  | _ => True
def plyzero24V (f g X : Nat) (which later a9 sc : Int) (dt : ByteArray) (pk : Pk) (i : Nat) (v : Value) : Prop := match i with
  | 0 => v = .pointer (some ⟨g, 0, none⟩)
  | 1 => v = .pointer (some ⟨X, 1, none⟩)
  | 2 => v = .int .i64 which
  | 3 => v = .int .u64 (IntKind.u64.wrap which)
  | 4 => v = .pointer (some ⟨X, 3, none⟩)
  | 5 => v = .string dt
  | 6 => v = .pointer (some ⟨X, 2, none⟩)
  | 7 => v = .int .i64 later
  | 8 => v = .int .i64 a9
  | 9 => v = .int .u64 a9
  | 10 => v = .tuple #[pk.v, .int .i64 sc]
  | 11 => v = .tuple #[pk.v, .int .i64 sc]
  | 12 => v = pk.v
  | 13 => v = .int .i64 sc
  | 16 => v = .int .i64 sc
  | _ => True
set_option maxRecDepth 100000 in
set_option maxHeartbeats 32000000 in
theorem play_zero (w : World) (o : Bool) (V1 V2 : Value) (hh : Int) (g j : Nat) (B : FB) (ps : List Pk) (s : Fl) (m n : Nat) (what which later : Int) (dt : ByteArray) (ow : i64r what) (oh : i64r which) (ol : i64r later) (od : dt.size ≤ 140737488351232) (hpl : ps.length ≤ j) (hm : m ≤ j) (hn : n ≤ j) (hj3 : j < 50)
    (K9 : Act → World → Prop) (Q9 : Exit → Act → World → Prop) (hK9 : Hid (∀ a W, PEnd o w V1 V2 hh g j a W → K9 a W)) (a0 : Act) (W : World) (hM : PMid o w V1 V2 hh g j B ps s m n ⟨what, which, later, dt⟩ a0 W) (HT : Hid (pickI what 8 = 0)) : playMid.c.wp Tryd.prog (Exit.inBlock 1 (Exit.then K9 Q9)) a0 W := by
  unfold playMid
  dsimp only
  obtain ⟨hs, hd, e0, e1, e2, e3, e11, e13, e10, X, Y, p, e14, e15, hW, hX, hY, hp, z1, z2⟩ := hM
  obtain ⟨u, hu, ha⟩ := frame284 a0 hs hd
  rw [hu] at e0 e1 e2 e3 e11 e13 e10 e14 e15
  rw [hu] at hW z2
  rw [ha, e0, e1, e2, e3, e10, e11, e13, e14, e15]
  obtain ⟨V, hV⟩ : ∃ V, u 12 = V := ⟨_, rfl⟩
  rw [hV] at hW z2
  have hyv : ∀ z, V.ownBlock = some z → z ≠ Y := z2
  rw [hV]
  have HX := Lib.hid hX
  have HW := Lib.hid hW
  have HY := Lib.hid hY
  have HP := Lib.hid hp
  have x0 : W.cell? ⟨X, 0, none⟩ = some (.int .i64 what) := hX.cell 0
  clear hs hd hu ha e0 e1 e2 e3 e11 e13 e10 hW hX hY hp e14 e15 hV z1 z2
  clear a0
  have HPk8 := Lib.hid (pick_is what 8 W ow.1 ow.2 (by omega) (by omega))
  rw [HT.out] at HPk8
  go_wp2_with fail
  refine HPk8.out.mono ?_
  rintro e W1 ⟨rfl, rfl⟩
  clear x0 HPk8 HT
  go_upto_region 23 with fail
  have HPk9 := Lib.hid (fun W => pick_is later 9 W ol.1 ol.2 (by omega) (by omega))
  have hp9 := pickI_r later 9 (by omega)
  generalize pickI later 9 = a9 at HPk9 hp9
  obtain ⟨p90, p91⟩ := hp9
  obtain ⟨pk, hpk⟩ : ∃ z, s.pkt (IntKind.u64.wrap which) 2 dt a9 = z := ⟨_, rfl⟩
  have HPkt := Lib.hid hpk
  obtain ⟨sc, hsc⟩ : ∃ z, sendCode dt = z := ⟨_, rfl⟩
  have HSc := Lib.hid hsc
  obtain ⟨s2, hs2⟩ : ∃ z, s.sendd (IntKind.u64.wrap which) 2 dt a9 = z := ⟨_, rfl⟩
  have HS2 := Lib.hid hs2
  clear hpk hsc hs2
  have HSe := Lib.hid HW.out.fa.send
  have HYv := Lib.hid (fun z (hz : V.ownBlock = some z) => hyv z hz)
  clear hyv
  have H0 : Hid (pS2 w B g V ps s s2 s s2 m (m + 1) n (n + 1) X (acC what which later dt) Y p false false W) := Lib.hid ⟨HW.out, HX.out, HY.out⟩
  clear HW HX HY
  have HT0 : Hid (∀ v : Value, pS3 w B g V ps s s2 s s2 m (m + 1) n (n + 1) X (acC what which later dt) Y p [] pk v false false false false W.drew) := Lib.hid (fun v => ⟨⟨H0.out.1.below (Below.refl _ W).drew, H0.out.2.1.below (Below.refl _ W).drew, H0.out.2.2.below (Below.refl _ W).drew⟩, (fun q hq => by cases hq), fun h => by cases h⟩)
  refine wp_abs fun a0 hA => ?_
  have h10 : a0.eval (.tmp 10) = .pointer (some ⟨B.f, 0, none⟩) := by rw [hA]; rfl
  have h14 : a0.eval (.tmp 14) = .pointer (some ⟨X, 0, none⟩) := by rw [hA]; rfl
  have hz : a0.tmps.size = 284 := by rw [hA]; rfl
  refine wp_region_K [some 110, some 111, some 112, some 113, some 114, some 115, some 116, some 117, some 118, some 119, some 120, some 109, some 121, some 122, some 17, none, some 18] 284 (GJ (plyzero23V B.f g X which later a9 sc dt pk) [10, 14, 15] (fun l vs W => pS3 w B g V ps s s2 s s2 m (m + 1) n (n + 1) X (acC what which later dt) Y p [] pk (vs.getD 1 undef) (l.getD 0 false) false (l.getD 1 false) (l.getD 2 false) W)) (by kernel_rfl) (by kernel_rfl) (by kernel_rfl) rfl (by kernel_rfl) hz (GJ.start (HT0.out _)) ?_ ⟨?_, ?_, ?_, ?_, ?_, ?_, ?_, ?_, ?_, ?_, ?_, ?_, ?_, ?_, ?_, ?_, ?_, trivial⟩
  · intro d u W hd hJ
    have hS : pS3 w B g V ps s s2 s s2 m (m + 1) n (n + 1) X (acC what which later dt) Y p [] pk (u 14) (d 10) false (d 14) (d 15) W := hJ.st
    rw [hd 10 (by decide), hd 14 (by decide), hd 15 (by decide)] at hS
    obtain ⟨Q1, hq, hB, hqw, hqy, hqv, hqq⟩ := hS.2.2 rfl
    have e16 : u 16 = .int .i64 sc := hJ.vals 16 (hd 16 (by decide))
    have HS3 := Lib.hid hS.1
    have HB1 : Hid (Blk W Q1 24 pk.cs) := Lib.hid hB
    have HQ1 := Lib.hid hS.2.1
    rw [hA]
    simp only [putAll, Act.put, List.setIfInBounds_toArray, List.set_cons_zero, List.set_cons_succ]
    clear hJ hd h10 h14 hz hA
    clear a0
    rw [e16, hq]
    clear e16 hS hq hB hqw hqy hqv hqq HT0
    generalize W = W3 at HS3 HB1 ⊢
    have H0 := HS3
    clear HS3 HQ1
    go_upto_region 24 with fail
    have HT0 : Hid (∀ v : Value, pS3 w B g V ps s s2 s s2 m (m + 1) n (n + 1) X (acC what which later dt) Y p [Q1] pk v true false false false W3.drew) := Lib.hid (fun v => ⟨⟨H0.out.1.below (Below.refl _ W3).drew, H0.out.2.1.below (Below.refl _ W3).drew, H0.out.2.2.below (Below.refl _ W3).drew⟩, (fun q hq => by rw [show q = Q1 by simpa using hq]; exact HB1.out.below (Below.refl _ W3).drew), fun h => by cases h⟩)
    refine wp_abs fun a0 hA => ?_
    have h11 : a0.eval (.tmp 11) = .pointer (some ⟨g, 0, none⟩) := by rw [hA]; rfl
    have h14 : a0.eval (.tmp 14) = .pointer (some ⟨X, 0, none⟩) := by rw [hA]; rfl
    have hz : a0.tmps.size = 284 := by rw [hA]; rfl
    refine wp_region_K [some 124, some 125, some 126, some 127, some 128, some 129, some 130, some 131, some 132, some 133, some 134, some 123, some 135, some 136, some 19, none, some 20] 284 (GJ (plyzero24V B.f g X which later a9 sc dt pk) [10, 14, 15] (fun l vs W => pS3 w B g V ps s s2 s s2 m (m + 1) n (n + 1) X (acC what which later dt) Y p [Q1] pk (vs.getD 1 undef) true (l.getD 0 false) (l.getD 1 false) (l.getD 2 false) W)) (by kernel_rfl) (by kernel_rfl) (by kernel_rfl) rfl (by kernel_rfl) hz (GJ.start (HT0.out _)) ?_ ⟨?_, ?_, ?_, ?_, ?_, ?_, ?_, ?_, ?_, ?_, ?_, ?_, ?_, ?_, ?_, ?_, ?_, trivial⟩
    · intro d u W hd hJ
      have hS : pS3 w B g V ps s s2 s s2 m (m + 1) n (n + 1) X (acC what which later dt) Y p [Q1] pk (u 14) true (d 10) (d 14) (d 15) W := hJ.st
      rw [hd 10 (by decide), hd 14 (by decide), hd 15 (by decide)] at hS
      obtain ⟨Q2, hq, hB, hqw, hqy, hqv, hqq⟩ := hS.2.2 rfl
      have e16 : u 16 = .int .i64 sc := hJ.vals 16 (hd 16 (by decide))
      have HS4 := Lib.hid hS.1
      have HB2 : Hid (Blk W Q2 24 pk.cs) := Lib.hid hB
      have HQ2 := Lib.hid hS.2.1
      rw [hA]
      simp only [putAll, Act.put, List.setIfInBounds_toArray, List.set_cons_zero, List.set_cons_succ]
      clear hJ hd h11 h14 hz hA
      clear a0
      rw [e16, hq]
      clear e16 hS hq hB hqw hqy hqv hqq HT0
      have HQ1 := Lib.hid (HQ2.out Q1 (by simp))
      generalize W = W4 at HS4 HB2 HQ1 ⊢
      have HW4 : Hid (PW w B g V ps s2 s2 (m + 1) (n + 1) W4) := Lib.hid HS4.out.1
      have HY4 := Lib.hid HS4.out.2.2
      clear HS4 HQ2 H0 HB1 HPk9
      have q0 : W4.cell? ⟨Q1, 0, none⟩ = some (.int .u64 pk.seq) := HQ1.out.cell 0
      have q1 : W4.cell? ⟨Q1, 1, none⟩ = some (.int .u64 pk.src) := HQ1.out.cell 1
      have q2 : W4.cell? ⟨Q1, 2, none⟩ = some (.int .u64 pk.dst) := HQ1.out.cell 2
      have q3 : W4.cell? ⟨Q1, 3, none⟩ = some (.string pk.data) := HQ1.out.cell 3
      have q4 : W4.cell? ⟨Q1, 4, none⟩ = some (.int .u64 pk.timeout) := HQ1.out.cell 4
      have r0 : W4.cell? ⟨Q2, 0, none⟩ = some (.int .u64 pk.seq) := HB2.out.cell 0
      have r1 : W4.cell? ⟨Q2, 1, none⟩ = some (.int .u64 pk.src) := HB2.out.cell 1
      have r2 : W4.cell? ⟨Q2, 2, none⟩ = some (.int .u64 pk.dst) := HB2.out.cell 2
      have r3 : W4.cell? ⟨Q2, 3, none⟩ = some (.string pk.data) := HB2.out.cell 3
      have r4 : W4.cell? ⟨Q2, 4, none⟩ = some (.int .u64 pk.timeout) := HB2.out.cell 4
      have hq1 := fun W => pk_eq2 pk pk W
      rw [(Pk.eqB_iff pk pk).2 rfl] at hq1
      by_cases h4 : 400 < dt.size
      · have hsc : sc = 181 := by rw [← HSc.out]; unfold sendCode; rw [if_pos h4]
        subst hsc
        clear h4
        go_upto_region 37 with fail
        clear q0 q1 q2 q3 q4 r0 r1 r2 r3 r4 hq1 HQ1 HB2
        have hsq : u64r p.seq := HP.out.seq
        obtain ⟨sn, hsn⟩ : ∃ z, s2 = z := ⟨_, rfl⟩
        rw [hsn] at HW4
        clear hsn
        obtain ⟨s1, hs1⟩ : ∃ z, (sn.sent p.seq).getD ByteArray.empty = z := ⟨_, rfl⟩
        obtain ⟨b1, hb1⟩ : ∃ z, (sn.sent p.seq).isSome = z := ⟨_, rfl⟩
        obtain ⟨s2, hs2⟩ : ∃ z, (sn.written p.seq).getD ByteArray.empty = z := ⟨_, rfl⟩
        obtain ⟨b2, hb2⟩ : ∃ z, (sn.written p.seq).isSome = z := ⟨_, rfl⟩
        obtain ⟨b3, hb3⟩ : ∃ z, sn.came p.seq = z := ⟨_, rfl⟩
        obtain ⟨n1, hn1⟩ : ∃ z, sn.send = z := ⟨_, rfl⟩
        obtain ⟨n2, hn2⟩ : ∃ z, sn.recv = z := ⟨_, rfl⟩
        obtain ⟨n3, hn3⟩ : ∃ z, sn.ack = z := ⟨_, rfl⟩
        have y0 : W4.cell? ⟨Y, 0, none⟩ = some (.int .u64 p.seq) := HY4.out.cell 0
        have hc := sent_is W4 B (m + 1) sn p.seq HW4.out.fa hsq
        rw [hs1, hb1] at hc
        go_wp2_with fail
        refine hc.mono ?_
        clear hc
        rintro e Wq ⟨rfl, rfl⟩
        clear y0
        have y0 : W4.cell? ⟨Y, 0, none⟩ = some (.int .u64 p.seq) := HY4.out.cell 0
        have hc := rsent_is W4 w.heap.size g (n + 1) sn p.seq HW4.out.rf (by omega)
        rw [hs1, hb1] at hc
        go_wp2_with fail
        refine hc.mono ?_
        clear hc
        rintro e Wq ⟨rfl, hb⟩
        have HWt1 := Lib.hid (HW4.out.below hb)
        have HYt1 := Lib.hid (HY4.out.below hb)
        clear hb y0 HW4 HY4
        generalize Wq = Wt1 at HWt1 HYt1 ⊢
        have y0 : Wt1.cell? ⟨Y, 0, none⟩ = some (.int .u64 p.seq) := HYt1.out.cell 0
        have hc := written_is Wt1 B (m + 1) sn p.seq HWt1.out.fa hsq
        rw [hs2, hb2] at hc
        go_wp2_with fail
        refine hc.mono ?_
        clear hc
        rintro e Wq ⟨rfl, rfl⟩
        clear y0
        have y0 : Wt1.cell? ⟨Y, 0, none⟩ = some (.int .u64 p.seq) := HYt1.out.cell 0
        have hc := rwritten_is Wt1 w.heap.size g (n + 1) sn p.seq HWt1.out.rf (by omega)
        rw [hs2, hb2] at hc
        go_wp2_with fail
        refine hc.mono ?_
        clear hc
        rintro e Wq ⟨rfl, hb⟩
        have HWt2 := Lib.hid (HWt1.out.below hb)
        have HYt2 := Lib.hid (HYt1.out.below hb)
        clear hb y0 HWt1 HYt1
        generalize Wq = Wt2 at HWt2 HYt2 ⊢
        have y0 : Wt2.cell? ⟨Y, 0, none⟩ = some (.int .u64 p.seq) := HYt2.out.cell 0
        have hc := next_same Wt2 B (m + 1) sn HWt2.out.fa
        rw [hn1, hn2, hn3] at hc
        go_wp2_with fail
        refine hc.mono ?_
        clear hc
        rintro e Wq ⟨rfl, hb⟩
        have HWt3 := Lib.hid (HWt2.out.below hb)
        have HYt3 := Lib.hid (HYt2.out.below hb)
        clear hb y0 HWt2 HYt2
        generalize Wq = Wt3 at HWt3 HYt3 ⊢
        have y0 : Wt3.cell? ⟨Y, 0, none⟩ = some (.int .u64 p.seq) := HYt3.out.cell 0
        have hc := rnext_is Wt3 w.heap.size g (n + 1) sn HWt3.out.rf
        rw [hn1, hn2, hn3] at hc
        go_wp2_with fail
        refine hc.mono ?_
        clear hc
        rintro e Wq ⟨rfl, hb⟩
        have HWt4 := Lib.hid (HWt3.out.below hb)
        have HYt4 := Lib.hid (HYt3.out.below hb)
        clear hb y0 HWt3 HYt3
        generalize Wq = Wt4 at HWt4 HYt4 ⊢
        have y0 : Wt4.cell? ⟨Y, 0, none⟩ = some (.int .u64 p.seq) := HYt4.out.cell 0
        have HC1 : Hid (∀ k, Calls Tryd.prog 22 #[.pointer (some ⟨B.f, 0, none⟩), .int .u64 p.seq] (Wt4.drewN k) fun e w' => e = .returned (.bool b3) ∧ w' = Wt4.drewN k) := Lib.hid (fun k => (came_is _ B (m + 1) sn p.seq ((HWt4.out.below (below_drewN' (Below.refl _ _) k)).fa) hsq).mono fun e w' ⟨h1, h2⟩ => ⟨by rw [h1, hb3], h2.symm⟩)
        have HC2 : Hid (∀ k, Calls Tryd.prog 46 #[.pointer (some ⟨g, 0, none⟩), .int .u64 p.seq] (Wt4.drewN k) fun e w' => e = .returned (.bool b3) ∧ w' = Wt4.drewN k) := Lib.hid (fun k => (rcame_is _ w.heap.size g (n + 1) sn p.seq ((HWt4.out.below (below_drewN' (Below.refl _ _) k)).rf) (by omega) hsq).mono fun e w' ⟨h1, h2⟩ => ⟨by rw [h1, hb3], h2.symm⟩)
        clear hs1 hb1 hs2 hb2 hb3 hn1 hn2 hn3
        go_wp2_with fail
        go_quiet ((first | (go_at_call 22; exact Calls.quiet_of_same (HC1.out _)) | (go_at_call 46; exact Calls.quiet_of_same (HC2.out _))))
        go_wp2_with fail
        exact hK9.out _ _ ⟨rfl, rfl, rfl, rfl, rfl, rfl, rfl, rfl, B, ps, sn, (m + 1), (n + 1), rfl, by omega, by omega, by omega, HWt4.out.below (below_drewN' (Below.refl _ _) nq)⟩
      · have hsc : sc = 0 := by rw [← HSc.out]; unfold sendCode; rw [if_neg h4]
        subst hsc
        have HPo : Hid pk.ok := Lib.hid (by
          rw [← HPkt.out]
          unfold Fl.pkt
          rw [if_neg h4]
          exact ⟨HSe.out, wrap_r _, ⟨by show (0 : Int) ≤ 2; omega, by show (2 : Int) ≤ _; omega⟩, ⟨by show 0 ≤ a9; omega, by show a9 ≤ _; omega⟩, od⟩)
        clear h4
        obtain ⟨ao, cp, hV, _⟩ := HW4.out.row.at_
        subst hV
        obtain ⟨i0, hi, hz0, hz1, hz2⟩ := info_parts info_pk
        have HIp := Lib.hid (And.intro hi (And.intro hz0 (And.intro hz1 hz2)))
        clear hi hz0 hz1 hz2
        have HW5 := Lib.hid (HW4.out.below (balloc (Below.refl _ W4) (.cells #[.int .u64 pk.seq, .int .u64 pk.src, .int .u64 pk.dst, .string pk.data, .int .u64 pk.timeout] 24)))
        have HY5 := Lib.hid (HY4.out.alloc (.cells #[.int .u64 pk.seq, .int .u64 pk.src, .int .u64 pk.dst, .string pk.data, .int .u64 pk.timeout] 24))
        have hsz := HW4.out.bel.size
        go_wp2_with (at_builtin; refine wpList_append_lies _ rfl _ _ 45 rfl w.heap.size 24 i0 (.agg #[.int .u64 0, .int .u64 0, .int .u64 0, .string ⟨#[]⟩, .int .u64 0]) 5 48 Tryd.underlying45 HIp.out.1 HIp.out.2.1 HIp.out.2.2.1 HIp.out.2.2.2 rfl (by decide) _ _ _ rfl HW5.out.row ⟨W4.heap.size, 0, none⟩ 1 1 (pkC pk) rfl rfl ?c1 ?c2 (by decide) ?c3 ?c4 ?c5 _ rfl ?_)
        case c1 => exact World.news_of_block (heap_alloc_new W4 _)
        case c2 => intro x hx; simp [pkC] at hx; rcases hx with rfl | rfl | rfl | rfl | rfl <;> rfl
        case c3 => unfold maxLen; omega
        case c4 => omega
        case c5 => simp; omega
        intro g7 cap7 W7 hown7 hgrow7 hat7 hlt7
        have HW7 := Lib.hid (HW5.out.grown hgrow7 (p := pk) (by unfold RowP; rw [List.length_append, List.length_singleton, pC_app]; simpa [pC] using hown7) HPo.out)
        have HY7 : Hid (Blk W7 Y 24 p.cs) := Lib.hid (HY5.out.only (Only.of_grown hgrow7) (fun hm => HYv.out Y (by simpa using hm) rfl))
        clear hown7 hgrow7 hat7 hlt7 HW4 HY4 HW5 HY5 HIp
        go_upto_region 37 with fail
        clear q0 q1 q2 q3 q4 r0 r1 r2 r3 r4 hq1 HQ1 HB2
        have hsq : u64r p.seq := HP.out.seq
        obtain ⟨sn, hsn⟩ : ∃ z, s2 = z := ⟨_, rfl⟩
        rw [hsn] at HW7
        clear hsn
        obtain ⟨s1, hs1⟩ : ∃ z, (sn.sent p.seq).getD ByteArray.empty = z := ⟨_, rfl⟩
        obtain ⟨b1, hb1⟩ : ∃ z, (sn.sent p.seq).isSome = z := ⟨_, rfl⟩
        obtain ⟨s2, hs2⟩ : ∃ z, (sn.written p.seq).getD ByteArray.empty = z := ⟨_, rfl⟩
        obtain ⟨b2, hb2⟩ : ∃ z, (sn.written p.seq).isSome = z := ⟨_, rfl⟩
        obtain ⟨b3, hb3⟩ : ∃ z, sn.came p.seq = z := ⟨_, rfl⟩
        obtain ⟨n1, hn1⟩ : ∃ z, sn.send = z := ⟨_, rfl⟩
        obtain ⟨n2, hn2⟩ : ∃ z, sn.recv = z := ⟨_, rfl⟩
        obtain ⟨n3, hn3⟩ : ∃ z, sn.ack = z := ⟨_, rfl⟩
        have y0 : W7.cell? ⟨Y, 0, none⟩ = some (.int .u64 p.seq) := HY7.out.cell 0
        have hc := sent_is W7 B (m + 1) sn p.seq HW7.out.fa hsq
        rw [hs1, hb1] at hc
        go_wp2_with fail
        refine hc.mono ?_
        clear hc
        rintro e Wq ⟨rfl, rfl⟩
        clear y0
        have y0 : W7.cell? ⟨Y, 0, none⟩ = some (.int .u64 p.seq) := HY7.out.cell 0
        have hc := rsent_is W7 w.heap.size g (n + 1) sn p.seq HW7.out.rf (by omega)
        rw [hs1, hb1] at hc
        go_wp2_with fail
        refine hc.mono ?_
        clear hc
        rintro e Wq ⟨rfl, hb⟩
        have HWt1 := Lib.hid (HW7.out.below hb)
        have HYt1 := Lib.hid (HY7.out.below hb)
        clear hb y0 HW7 HY7
        generalize Wq = Wt1 at HWt1 HYt1 ⊢
        have y0 : Wt1.cell? ⟨Y, 0, none⟩ = some (.int .u64 p.seq) := HYt1.out.cell 0
        have hc := written_is Wt1 B (m + 1) sn p.seq HWt1.out.fa hsq
        rw [hs2, hb2] at hc
        go_wp2_with fail
        refine hc.mono ?_
        clear hc
        rintro e Wq ⟨rfl, rfl⟩
        clear y0
        have y0 : Wt1.cell? ⟨Y, 0, none⟩ = some (.int .u64 p.seq) := HYt1.out.cell 0
        have hc := rwritten_is Wt1 w.heap.size g (n + 1) sn p.seq HWt1.out.rf (by omega)
        rw [hs2, hb2] at hc
        go_wp2_with fail
        refine hc.mono ?_
        clear hc
        rintro e Wq ⟨rfl, hb⟩
        have HWt2 := Lib.hid (HWt1.out.below hb)
        have HYt2 := Lib.hid (HYt1.out.below hb)
        clear hb y0 HWt1 HYt1
        generalize Wq = Wt2 at HWt2 HYt2 ⊢
        have y0 : Wt2.cell? ⟨Y, 0, none⟩ = some (.int .u64 p.seq) := HYt2.out.cell 0
        have hc := next_same Wt2 B (m + 1) sn HWt2.out.fa
        rw [hn1, hn2, hn3] at hc
        go_wp2_with fail
        refine hc.mono ?_
        clear hc
        rintro e Wq ⟨rfl, hb⟩
        have HWt3 := Lib.hid (HWt2.out.below hb)
        have HYt3 := Lib.hid (HYt2.out.below hb)
        clear hb y0 HWt2 HYt2
        generalize Wq = Wt3 at HWt3 HYt3 ⊢
        have y0 : Wt3.cell? ⟨Y, 0, none⟩ = some (.int .u64 p.seq) := HYt3.out.cell 0
        have hc := rnext_is Wt3 w.heap.size g (n + 1) sn HWt3.out.rf
        rw [hn1, hn2, hn3] at hc
        go_wp2_with fail
        refine hc.mono ?_
        clear hc
        rintro e Wq ⟨rfl, hb⟩
        have HWt4 := Lib.hid (HWt3.out.below hb)
        have HYt4 := Lib.hid (HYt3.out.below hb)
        clear hb y0 HWt3 HYt3
        generalize Wq = Wt4 at HWt4 HYt4 ⊢
        have y0 : Wt4.cell? ⟨Y, 0, none⟩ = some (.int .u64 p.seq) := HYt4.out.cell 0
        have HC1 : Hid (∀ k, Calls Tryd.prog 22 #[.pointer (some ⟨B.f, 0, none⟩), .int .u64 p.seq] (Wt4.drewN k) fun e w' => e = .returned (.bool b3) ∧ w' = Wt4.drewN k) := Lib.hid (fun k => (came_is _ B (m + 1) sn p.seq ((HWt4.out.below (below_drewN' (Below.refl _ _) k)).fa) hsq).mono fun e w' ⟨h1, h2⟩ => ⟨by rw [h1, hb3], h2.symm⟩)
        have HC2 : Hid (∀ k, Calls Tryd.prog 46 #[.pointer (some ⟨g, 0, none⟩), .int .u64 p.seq] (Wt4.drewN k) fun e w' => e = .returned (.bool b3) ∧ w' = Wt4.drewN k) := Lib.hid (fun k => (rcame_is _ w.heap.size g (n + 1) sn p.seq ((HWt4.out.below (below_drewN' (Below.refl _ _) k)).rf) (by omega) hsq).mono fun e w' ⟨h1, h2⟩ => ⟨by rw [h1, hb3], h2.symm⟩)
        clear hs1 hb1 hs2 hb2 hb3 hn1 hn2 hn3
        go_wp2_with fail
        go_quiet ((first | (go_at_call 22; exact Calls.quiet_of_same (HC1.out _)) | (go_at_call 46; exact Calls.quiet_of_same (HC2.out _))))
        go_wp2_with fail
        exact hK9.out _ _ ⟨rfl, rfl, rfl, rfl, rfl, rfl, rfl, rfl, B, _, sn, (m + 1), (n + 1), rfl, by rw [List.length_append, List.length_singleton]; omega, by omega, by omega, HWt4.out.below (below_drewN' (Below.refl _ _) nq)⟩
    · exact KStep.plain rfl fun ρ d u W he hc hdi hd hJ => swp_val (run_move (he.o h11 rfl)) (hJ.pure 0 rfl rfl)
    · exact KStep.plain rfl fun ρ d u W he hc hdi hd hJ => swp_val (run_fieldAddr (he.o h14 rfl) (by go_simp)) (hJ.pure 1 rfl rfl)
    · exact KStep.plain rfl fun ρ d u W he hc hdi hd hJ => swp_val (run_load (he.i hz (hJ.vals 1 (hd 1 (by kernel_rfl))) (j := 1) (d := 125) rfl (by decide)) (ld_i ((pS3_x (show pS3 w B g V ps s s2 s s2 m (m + 1) n (n + 1) X (acC what which later dt) Y p [Q1] pk (u 14) true (d 10) (d 14) (d 15) W from hJ.st)).cell 1))) (hJ.pure 2 rfl rfl)
    · exact KStep.plain rfl fun ρ d u W he hc hdi hd hJ => swp_val (run_convert (he.i hz (hJ.vals 2 (hd 2 (by kernel_rfl))) (j := 2) (d := 126) rfl (by decide)) (conv_wr _ W)) (hJ.pure 3 rfl rfl)
    · exact KStep.plain rfl fun ρ d u W he hc hdi hd hJ => swp_val (run_fieldAddr (he.o h14 rfl) (by go_simp)) (hJ.pure 4 rfl rfl)
    · exact KStep.plain rfl fun ρ d u W he hc hdi hd hJ => swp_val (run_load (he.i hz (hJ.vals 4 (hd 4 (by kernel_rfl))) (j := 4) (d := 128) rfl (by decide)) (ld_s ((pS3_x (show pS3 w B g V ps s s2 s s2 m (m + 1) n (n + 1) X (acC what which later dt) Y p [Q1] pk (u 14) true (d 10) (d 14) (d 15) W from hJ.st)).cell 3))) (hJ.pure 5 rfl rfl)
    · exact KStep.plain rfl fun ρ d u W he hc hdi hd hJ => swp_val (run_fieldAddr (he.o h14 rfl) (by go_simp)) (hJ.pure 6 rfl rfl)
    · exact KStep.plain rfl fun ρ d u W he hc hdi hd hJ => swp_val (run_load (he.i hz (hJ.vals 6 (hd 6 (by kernel_rfl))) (j := 6) (d := 130) rfl (by decide)) (ld_i ((pS3_x (show pS3 w B g V ps s s2 s s2 m (m + 1) n (n + 1) X (acC what which later dt) Y p [Q1] pk (u 14) true (d 10) (d 14) (d 15) W from hJ.st)).cell 2))) (hJ.pure 7 rfl rfl)
    · exact KStep.plain rfl fun ρ d u W he hc hdi hd hJ => swp_call (run_call #[.int .i64 later, .int .i64 9] (he.func _) (by kernel_rfl) (map2 (he.i hz (hJ.vals 7 (hd 7 (by kernel_rfl))) (j := 7) (d := 131) rfl (by decide)) (he.const _))) (HPk9.out W) (fun e W' h => ⟨_, h.1, h.2 ▸ hJ.pure 8 rfl rfl⟩)
    · exact KStep.plain rfl fun ρ d u W he hc hdi hd hJ => swp_val (run_convert (he.i hz (hJ.vals 8 (hd 8 (by kernel_rfl))) (j := 8) (d := 132) rfl (by decide)) (conv_iu _ (by omega) (by omega) W)) (hJ.pure 9 rfl rfl)
    · refine KStep.plain rfl fun ρ d u W he hc hdi hd hJ => ?_
      have hS : pS3 w B g V ps s s2 s s2 m (m + 1) n (n + 1) X (acC what which later dt) Y p [Q1] pk (u 14) true (d 10) (d 14) (d 15) W := hJ.st
      rw [hdi] at hS
      exact swp_call (run_call #[.pointer (some ⟨g, 0, none⟩), .int .u64 (IntKind.u64.wrap which), .int .u64 2, .string dt, .int .u64 a9] (he.func _) (by kernel_rfl) (mp5 (he.i hz (hJ.vals 0 (hd 0 (by kernel_rfl))) (j := 0) (d := 124) rfl (by decide)) (he.i hz (hJ.vals 3 (hd 3 (by kernel_rfl))) (j := 3) (d := 127) rfl (by decide)) (he.const _) (he.i hz (hJ.vals 5 (hd 5 (by kernel_rfl))) (j := 5) (d := 129) rfl (by decide)) (he.i hz (hJ.vals 9 (hd 9 (by kernel_rfl))) (j := 9) (d := 133) rfl (by decide)))) (rsendf_is W hS.1.1.glob w.heap.size g n s (IntKind.u64.wrap which) 2 a9 dt hS.1.1.rf (by omega) (wrap_r _) ⟨by omega, by omega⟩ ⟨by omega, by omega⟩ od) (fun e W' h => ⟨_, by rw [h.1, HPkt.out, HSc.out], hJ.go 10 rfl (show pS3 w B g V ps s s2 s s2 m (m + 1) n (n + 1) X (acC what which later dt) Y p [Q1] pk (put1 u 10 (.tuple #[pk.v, .int .i64 sc]) 14) true (did d 10 10) (did d 10 14) (did d 10 15) W' from (by rw [did_at, did_ne d (by decide), did_ne d (by decide), put1_ne u _ (by decide)]; exact pS3_B hS (HS2.out ▸ h.2)))⟩)
    · exact KStep.plain rfl fun ρ d u W he hc hdi hd hJ => swp_val (run_move (he.i hz (hJ.vals 10 (hd 10 (by kernel_rfl))) (j := 10) (d := 134) rfl (by decide))) (hJ.pure 11 rfl rfl)
    · exact KStep.plain rfl fun ρ d u W he hc hdi hd hJ => swp_val (run_extract (he.i hz (hJ.vals 11 (hd 11 (by kernel_rfl))) (j := 11) (d := 123) rfl (by decide)) (ex0 _ _ W)) (hJ.pure 12 rfl rfl)
    · exact KStep.plain rfl fun ρ d u W he hc hdi hd hJ => swp_val (run_extract (he.i hz (hJ.vals 11 (hd 11 (by kernel_rfl))) (j := 11) (d := 123) rfl (by decide)) (ex1 _ _ W)) (hJ.pure 13 rfl rfl)
    · refine KStep.plain rfl fun ρ d u W he hc hdi hd hJ => ?_
      have hS : pS3 w B g V ps s s2 s s2 m (m + 1) n (n + 1) X (acC what which later dt) Y p [Q1] pk (u 14) true (d 10) (d 14) (d 15) W := hJ.st
      have h15 : d 15 = false := hc.notyet [14] (by kernel_rfl) rfl hdi
      rw [hdi, h15] at hS
      exact swp_val (run_alc (alc_pk _)) (hJ.go 14 trivial (show pS3 w B g V ps s s2 s s2 m (m + 1) n (n + 1) X (acC what which later dt) Y p [Q1] pk (put1 u 14 (.pointer (some ⟨W.heap.size, 0, none⟩)) 14) true (did d 14 10) (did d 14 14) (did d 14 15) (W.alloc (.cells Pk.zero.cs 24)) from (by rw [did_at, did_ne d (by decide), did_ne d (by decide), put1_at, h15]; exact pS3_make hS)))
    · refine KStep.plain rfl fun ρ d u W he hc hdi hd hJ => ?_
      have hS : pS3 w B g V ps s s2 s s2 m (m + 1) n (n + 1) X (acC what which later dt) Y p [Q1] pk (u 14) true (d 10) (d 14) (d 15) W := hJ.st
      rw [hdi, hd 14 (by kernel_rfl)] at hS
      obtain ⟨q, hq, hB, hF⟩ := pS3_fill hS
      exact swp_skip (run_store (he.i hz hq (j := 14) (d := 19) rfl (by decide)) (he.i hz (hJ.vals 12 (hd 12 (by kernel_rfl))) (j := 12) (d := 135) rfl (by decide)) (st_pk pk Pk.zero hB)) (hJ.go 15 trivial (show pS3 w B g V ps s s2 s s2 m (m + 1) n (n + 1) X (acC what which later dt) Y p [Q1] pk (put1 u 15 (undef) 14) true (did d 15 10) (did d 15 14) (did d 15 15) _ from (by rw [did_at, did_ne d (by decide), did_ne d (by decide), put1_ne u _ (by decide), hd 14 (by kernel_rfl)]; exact hF)))
    · exact KStep.plain rfl fun ρ d u W he hc hdi hd hJ => swp_val (run_assign (he.i hz (hJ.vals 13 (hd 13 (by kernel_rfl))) (j := 13) (d := 136) rfl (by decide))) (hJ.pure 16 rfl rfl)
  · exact KStep.plain rfl fun ρ d u W he hc hdi hd hJ => swp_val (run_move (he.o h10 rfl)) (hJ.pure 0 rfl rfl)
  · exact KStep.plain rfl fun ρ d u W he hc hdi hd hJ => swp_val (run_fieldAddr (he.o h14 rfl) (by go_simp)) (hJ.pure 1 rfl rfl)
  · exact KStep.plain rfl fun ρ d u W he hc hdi hd hJ => swp_val (run_load (he.i hz (hJ.vals 1 (hd 1 (by kernel_rfl))) (j := 1) (d := 111) rfl (by decide)) (ld_i ((pS3_x (show pS3 w B g V ps s s2 s s2 m (m + 1) n (n + 1) X (acC what which later dt) Y p [] pk (u 14) (d 10) false (d 14) (d 15) W from hJ.st)).cell 1))) (hJ.pure 2 rfl rfl)
  · exact KStep.plain rfl fun ρ d u W he hc hdi hd hJ => swp_val (run_convert (he.i hz (hJ.vals 2 (hd 2 (by kernel_rfl))) (j := 2) (d := 112) rfl (by decide)) (conv_wr _ W)) (hJ.pure 3 rfl rfl)
  · exact KStep.plain rfl fun ρ d u W he hc hdi hd hJ => swp_val (run_fieldAddr (he.o h14 rfl) (by go_simp)) (hJ.pure 4 rfl rfl)
  · exact KStep.plain rfl fun ρ d u W he hc hdi hd hJ => swp_val (run_load (he.i hz (hJ.vals 4 (hd 4 (by kernel_rfl))) (j := 4) (d := 114) rfl (by decide)) (ld_s ((pS3_x (show pS3 w B g V ps s s2 s s2 m (m + 1) n (n + 1) X (acC what which later dt) Y p [] pk (u 14) (d 10) false (d 14) (d 15) W from hJ.st)).cell 3))) (hJ.pure 5 rfl rfl)
  · exact KStep.plain rfl fun ρ d u W he hc hdi hd hJ => swp_val (run_fieldAddr (he.o h14 rfl) (by go_simp)) (hJ.pure 6 rfl rfl)
  · exact KStep.plain rfl fun ρ d u W he hc hdi hd hJ => swp_val (run_load (he.i hz (hJ.vals 6 (hd 6 (by kernel_rfl))) (j := 6) (d := 116) rfl (by decide)) (ld_i ((pS3_x (show pS3 w B g V ps s s2 s s2 m (m + 1) n (n + 1) X (acC what which later dt) Y p [] pk (u 14) (d 10) false (d 14) (d 15) W from hJ.st)).cell 2))) (hJ.pure 7 rfl rfl)
  · exact KStep.plain rfl fun ρ d u W he hc hdi hd hJ => swp_call (run_call #[.int .i64 later, .int .i64 9] (he.func _) (by kernel_rfl) (map2 (he.i hz (hJ.vals 7 (hd 7 (by kernel_rfl))) (j := 7) (d := 117) rfl (by decide)) (he.const _))) (HPk9.out W) (fun e W' h => ⟨_, h.1, h.2 ▸ hJ.pure 8 rfl rfl⟩)
  · exact KStep.plain rfl fun ρ d u W he hc hdi hd hJ => swp_val (run_convert (he.i hz (hJ.vals 8 (hd 8 (by kernel_rfl))) (j := 8) (d := 118) rfl (by decide)) (conv_iu _ (by omega) (by omega) W)) (hJ.pure 9 rfl rfl)
  · refine KStep.plain rfl fun ρ d u W he hc hdi hd hJ => ?_
    have hS : pS3 w B g V ps s s2 s s2 m (m + 1) n (n + 1) X (acC what which later dt) Y p [] pk (u 14) (d 10) false (d 14) (d 15) W := hJ.st
    rw [hdi] at hS
    exact swp_call (run_call #[.pointer (some ⟨B.f, 0, none⟩), .int .u64 (IntKind.u64.wrap which), .int .u64 2, .string dt, .int .u64 a9] (he.func _) (by kernel_rfl) (mp5 (he.i hz (hJ.vals 0 (hd 0 (by kernel_rfl))) (j := 0) (d := 110) rfl (by decide)) (he.i hz (hJ.vals 3 (hd 3 (by kernel_rfl))) (j := 3) (d := 113) rfl (by decide)) (he.const _) (he.i hz (hJ.vals 5 (hd 5 (by kernel_rfl))) (j := 5) (d := 115) rfl (by decide)) (he.i hz (hJ.vals 9 (hd 9 (by kernel_rfl))) (j := 9) (d := 119) rfl (by decide)))) (send_is W hS.1.1.glob.g B m s (IntKind.u64.wrap which) 2 a9 dt hS.1.1.fa (wrap_r _) ⟨by omega, by omega⟩ ⟨by omega, by omega⟩ od (by unfold maxLen; omega)) (fun e W' h => ⟨_, by rw [h.1, HPkt.out, HSc.out], hJ.go 10 rfl (show pS3 w B g V ps s s2 s s2 m (m + 1) n (n + 1) X (acC what which later dt) Y p [] pk (put1 u 10 (.tuple #[pk.v, .int .i64 sc]) 14) (did d 10 10) false (did d 10 14) (did d 10 15) W' from (by rw [did_at, did_ne d (by decide), did_ne d (by decide), put1_ne u _ (by decide)]; exact pS3_A hS (HS2.out ▸ h.2.1) h.2.2))⟩)
  · exact KStep.plain rfl fun ρ d u W he hc hdi hd hJ => swp_val (run_move (he.i hz (hJ.vals 10 (hd 10 (by kernel_rfl))) (j := 10) (d := 120) rfl (by decide))) (hJ.pure 11 rfl rfl)
  · exact KStep.plain rfl fun ρ d u W he hc hdi hd hJ => swp_val (run_extract (he.i hz (hJ.vals 11 (hd 11 (by kernel_rfl))) (j := 11) (d := 109) rfl (by decide)) (ex0 _ _ W)) (hJ.pure 12 rfl rfl)
  · exact KStep.plain rfl fun ρ d u W he hc hdi hd hJ => swp_val (run_extract (he.i hz (hJ.vals 11 (hd 11 (by kernel_rfl))) (j := 11) (d := 109) rfl (by decide)) (ex1 _ _ W)) (hJ.pure 13 rfl rfl)
  · refine KStep.plain rfl fun ρ d u W he hc hdi hd hJ => ?_
    have hS : pS3 w B g V ps s s2 s s2 m (m + 1) n (n + 1) X (acC what which later dt) Y p [] pk (u 14) (d 10) false (d 14) (d 15) W := hJ.st
    have h15 : d 15 = false := hc.notyet [14] (by kernel_rfl) rfl hdi
    rw [hdi, h15] at hS
    exact swp_val (run_alc (alc_pk _)) (hJ.go 14 trivial (show pS3 w B g V ps s s2 s s2 m (m + 1) n (n + 1) X (acC what which later dt) Y p [] pk (put1 u 14 (.pointer (some ⟨W.heap.size, 0, none⟩)) 14) (did d 14 10) false (did d 14 14) (did d 14 15) (W.alloc (.cells Pk.zero.cs 24)) from (by rw [did_at, did_ne d (by decide), did_ne d (by decide), put1_at, h15]; exact pS3_make hS)))
  · refine KStep.plain rfl fun ρ d u W he hc hdi hd hJ => ?_
    have hS : pS3 w B g V ps s s2 s s2 m (m + 1) n (n + 1) X (acC what which later dt) Y p [] pk (u 14) (d 10) false (d 14) (d 15) W := hJ.st
    rw [hdi, hd 14 (by kernel_rfl)] at hS
    obtain ⟨q, hq, hB, hF⟩ := pS3_fill hS
    exact swp_skip (run_store (he.i hz hq (j := 14) (d := 17) rfl (by decide)) (he.i hz (hJ.vals 12 (hd 12 (by kernel_rfl))) (j := 12) (d := 121) rfl (by decide)) (st_pk pk Pk.zero hB)) (hJ.go 15 trivial (show pS3 w B g V ps s s2 s s2 m (m + 1) n (n + 1) X (acC what which later dt) Y p [] pk (put1 u 15 (undef) 14) (did d 15 10) false (did d 15 14) (did d 15 15) _ from (by rw [did_at, did_ne d (by decide), did_ne d (by decide), put1_ne u _ (by decide), hd 14 (by kernel_rfl)]; exact hF)))
  · exact KStep.plain rfl fun ρ d u W he hc hdi hd hJ => swp_val (run_assign (he.i hz (hJ.vals 13 (hd 13 (by kernel_rfl))) (j := 13) (d := 122) rfl (by decide))) (hJ.pure 16 rfl rfl)
end Go.Proofs.YtpekbnkmnellpaaDoor
namespace Go.Proofs.YtpekbnkmnellpaaDoor
open Go.RowKit Go.Maps
set_option linter.unusedVariables false
def plyone23V (f g X : Nat) (which later a9 sc : Int) (dt : ByteArray) (pk : Pk) (i : Nat) (v : Value) : Prop := match i with
  | 0 => v = .pointer (some ⟨f, 0, none⟩)
  | 1 => v = .pointer (some ⟨X, 1, none⟩)
  | 2 => v = .int .i64 which
  | 3 => v = .int .u64 (IntKind.u64.wrap which)
  | 4 => v = .pointer (some ⟨X, 3, none⟩)
  | 5 => v = .string dt
  | 6 => v = .pointer (some ⟨X, 2, none⟩)
  | 7 => v = .int .i64 later
  | 8 => v = .int .i64 a9
  | 9 => v = .int .u64 a9
  | 10 => v = .tuple #[pk.v, .int .i64 sc]
  | 11 => v = .tuple #[pk.v, .int .i64 sc]
  | 12 => v = pk.v
  | 13 => v = .int .i64 sc
  | 16 => v = .int .i64 sc
  | _ => True
def plyone24V (f g X : Nat) (which later a9 sc : Int) (dt : ByteArray) (pk : Pk) (i : Nat) (v : Value) : Prop := match i with
  | 0 => v = .pointer (some ⟨g, 0, none⟩)
  | 1 => v = .pointer (some ⟨X, 1, none⟩)
  | 2 => v = .int .i64 which
  | 3 => v = .int .u64 (IntKind.u64.wrap which)
  | 4 => v = .pointer (some ⟨X, 3, none⟩)
  | 5 => v = .string dt
  | 6 => v = .pointer (some ⟨X, 2, none⟩)
  | 7 => v = .int .i64 later
  | 8 => v = .int .i64 a9
  | 9 => v = .int .u64 a9
  | 10 => v = .tuple #[pk.v, .int .i64 sc]
  | 11 => v = .tuple #[pk.v, .int .i64 sc]
  | 12 => v = pk.v
  | 13 => v = .int .i64 sc
  | 16 => v = .int .i64 sc
  | _ => True
set_option maxRecDepth 100000 in
set_option maxHeartbeats 32000000 in
theorem play_one (w : World) (o : Bool) (V1 V2 : Value) (hh : Int) (g j : Nat) (B : FB) (ps : List Pk) (s : Fl) (m n : Nat) (what which later : Int) (dt : ByteArray) (ow : i64r what) (oh : i64r which) (ol : i64r later) (od : dt.size ≤ 140737488351232) (hpl : ps.length ≤ j) (hm : m ≤ j) (hn : n ≤ j) (hj3 : j < 50)
    (K9 : Act → World → Prop) (Q9 : Exit → Act → World → Prop) (hK9 : Hid (∀ a W, PEnd o w V1 V2 hh g j a W → K9 a W)) (a0 : Act) (W : World) (hM : PMid o w V1 V2 hh g j B ps s m n ⟨what, which, later, dt⟩ a0 W) (HT : Hid (pickI what 8 = 1)) : playMid.c.wp Tryd.prog (Exit.inBlock 1 (Exit.then K9 Q9)) a0 W := by
  unfold playMid
  dsimp only
  obtain ⟨hs, hd, e0, e1, e2, e3, e11, e13, e10, X, Y, p, e14, e15, hW, hX, hY, hp, z1, z2⟩ := hM
  obtain ⟨u, hu, ha⟩ := frame284 a0 hs hd
  rw [hu] at e0 e1 e2 e3 e11 e13 e10 e14 e15
  rw [hu] at hW z2
  rw [ha, e0, e1, e2, e3, e10, e11, e13, e14, e15]
  obtain ⟨V, hV⟩ : ∃ V, u 12 = V := ⟨_, rfl⟩
  rw [hV] at hW z2
  have hyv : ∀ z, V.ownBlock = some z → z ≠ Y := z2
  rw [hV]
  have HX := Lib.hid hX
  have HW := Lib.hid hW
  have HY := Lib.hid hY
  have HP := Lib.hid hp
  have x0 : W.cell? ⟨X, 0, none⟩ = some (.int .i64 what) := hX.cell 0
  clear hs hd hu ha e0 e1 e2 e3 e11 e13 e10 hW hX hY hp e14 e15 hV z1 z2
  clear a0
  have HPk8 := Lib.hid (pick_is what 8 W ow.1 ow.2 (by omega) (by omega))
  rw [HT.out] at HPk8
  go_wp2_with fail
  refine HPk8.out.mono ?_
  rintro e W1 ⟨rfl, rfl⟩
  clear x0 HPk8 HT
  go_upto_region 23 with fail
  have HPk9 := Lib.hid (fun W => pick_is later 9 W ol.1 ol.2 (by omega) (by omega))
  have hp9 := pickI_r later 9 (by omega)
  generalize pickI later 9 = a9 at HPk9 hp9
  obtain ⟨p90, p91⟩ := hp9
  obtain ⟨pk, hpk⟩ : ∃ z, s.pkt (IntKind.u64.wrap which) 2 dt a9 = z := ⟨_, rfl⟩
  have HPkt := Lib.hid hpk
  obtain ⟨sc, hsc⟩ : ∃ z, sendCode dt = z := ⟨_, rfl⟩
  have HSc := Lib.hid hsc
  obtain ⟨s2, hs2⟩ : ∃ z, s.sendd (IntKind.u64.wrap which) 2 dt a9 = z := ⟨_, rfl⟩
  have HS2 := Lib.hid hs2
  clear hpk hsc hs2
  have HSe := Lib.hid HW.out.fa.send
  have HYv := Lib.hid (fun z (hz : V.ownBlock = some z) => hyv z hz)
  clear hyv
  have H0 : Hid (pS2 w B g V ps s s2 s s2 m (m + 1) n (n + 1) X (acC what which later dt) Y p false false W) := Lib.hid ⟨HW.out, HX.out, HY.out⟩
  clear HW HX HY
  have HT0 : Hid (∀ v : Value, pS3 w B g V ps s s2 s s2 m (m + 1) n (n + 1) X (acC what which later dt) Y p [] pk v false false false false W.drew) := Lib.hid (fun v => ⟨⟨H0.out.1.below (Below.refl _ W).drew, H0.out.2.1.below (Below.refl _ W).drew, H0.out.2.2.below (Below.refl _ W).drew⟩, (fun q hq => by cases hq), fun h => by cases h⟩)
  refine wp_abs fun a0 hA => ?_
  have h10 : a0.eval (.tmp 10) = .pointer (some ⟨B.f, 0, none⟩) := by rw [hA]; rfl
  have h14 : a0.eval (.tmp 14) = .pointer (some ⟨X, 0, none⟩) := by rw [hA]; rfl
  have hz : a0.tmps.size = 284 := by rw [hA]; rfl
  refine wp_region_K [some 110, some 111, some 112, some 113, some 114, some 115, some 116, some 117, some 118, some 119, some 120, some 109, some 121, some 122, some 17, none, some 18] 284 (GJ (plyone23V B.f g X which later a9 sc dt pk) [10, 14, 15] (fun l vs W => pS3 w B g V ps s s2 s s2 m (m + 1) n (n + 1) X (acC what which later dt) Y p [] pk (vs.getD 1 undef) (l.getD 0 false) false (l.getD 1 false) (l.getD 2 false) W)) (by kernel_rfl) (by kernel_rfl) (by kernel_rfl) rfl (by kernel_rfl) hz (GJ.start (HT0.out _)) ?_ ⟨?_, ?_, ?_, ?_, ?_, ?_, ?_, ?_, ?_, ?_, ?_, ?_, ?_, ?_, ?_, ?_, ?_, trivial⟩
  · intro d u W hd hJ
    have hS : pS3 w B g V ps s s2 s s2 m (m + 1) n (n + 1) X (acC what which later dt) Y p [] pk (u 14) (d 10) false (d 14) (d 15) W := hJ.st
    rw [hd 10 (by decide), hd 14 (by decide), hd 15 (by decide)] at hS
    obtain ⟨Q1, hq, hB, hqw, hqy, hqv, hqq⟩ := hS.2.2 rfl
    have e16 : u 16 = .int .i64 sc := hJ.vals 16 (hd 16 (by decide))
    have HS3 := Lib.hid hS.1
    have HB1 : Hid (Blk W Q1 24 pk.cs) := Lib.hid hB
    have HQ1 := Lib.hid hS.2.1
    rw [hA]
    simp only [putAll, Act.put, List.setIfInBounds_toArray, List.set_cons_zero, List.set_cons_succ]
    clear hJ hd h10 h14 hz hA
    clear a0
    rw [e16, hq]
    clear e16 hS hq hB hqw hqy hqv hqq HT0
    generalize W = W3 at HS3 HB1 ⊢
    have H0 := HS3
    clear HS3 HQ1
    go_upto_region 24 with fail
    have HT0 : Hid (∀ v : Value, pS3 w B g V ps s s2 s s2 m (m + 1) n (n + 1) X (acC what which later dt) Y p [Q1] pk v true false false false W3.drew) := Lib.hid (fun v => ⟨⟨H0.out.1.below (Below.refl _ W3).drew, H0.out.2.1.below (Below.refl _ W3).drew, H0.out.2.2.below (Below.refl _ W3).drew⟩, (fun q hq => by rw [show q = Q1 by simpa using hq]; exact HB1.out.below (Below.refl _ W3).drew), fun h => by cases h⟩)
    refine wp_abs fun a0 hA => ?_
    have h11 : a0.eval (.tmp 11) = .pointer (some ⟨g, 0, none⟩) := by rw [hA]; rfl
    have h14 : a0.eval (.tmp 14) = .pointer (some ⟨X, 0, none⟩) := by rw [hA]; rfl
    have hz : a0.tmps.size = 284 := by rw [hA]; rfl
    refine wp_region_K [some 124, some 125, some 126, some 127, some 128, some 129, some 130, some 131, some 132, some 133, some 134, some 123, some 135, some 136, some 19, none, some 20] 284 (GJ (plyone24V B.f g X which later a9 sc dt pk) [10, 14, 15] (fun l vs W => pS3 w B g V ps s s2 s s2 m (m + 1) n (n + 1) X (acC what which later dt) Y p [Q1] pk (vs.getD 1 undef) true (l.getD 0 false) (l.getD 1 false) (l.getD 2 false) W)) (by kernel_rfl) (by kernel_rfl) (by kernel_rfl) rfl (by kernel_rfl) hz (GJ.start (HT0.out _)) ?_ ⟨?_, ?_, ?_, ?_, ?_, ?_, ?_, ?_, ?_, ?_, ?_, ?_, ?_, ?_, ?_, ?_, ?_, trivial⟩
    · intro d u W hd hJ
      have hS : pS3 w B g V ps s s2 s s2 m (m + 1) n (n + 1) X (acC what which later dt) Y p [Q1] pk (u 14) true (d 10) (d 14) (d 15) W := hJ.st
      rw [hd 10 (by decide), hd 14 (by decide), hd 15 (by decide)] at hS
      obtain ⟨Q2, hq, hB, hqw, hqy, hqv, hqq⟩ := hS.2.2 rfl
      have e16 : u 16 = .int .i64 sc := hJ.vals 16 (hd 16 (by decide))
      have HS4 := Lib.hid hS.1
      have HB2 : Hid (Blk W Q2 24 pk.cs) := Lib.hid hB
      have HQ2 := Lib.hid hS.2.1
      rw [hA]
      simp only [putAll, Act.put, List.setIfInBounds_toArray, List.set_cons_zero, List.set_cons_succ]
      clear hJ hd h11 h14 hz hA
      clear a0
      rw [e16, hq]
      clear e16 hS hq hB hqw hqy hqv hqq HT0
      have HQ1 := Lib.hid (HQ2.out Q1 (by simp))
      generalize W = W4 at HS4 HB2 HQ1 ⊢
      have HW4 : Hid (PW w B g V ps s2 s2 (m + 1) (n + 1) W4) := Lib.hid HS4.out.1
      have HY4 := Lib.hid HS4.out.2.2
      clear HS4 HQ2 H0 HB1 HPk9
      have q0 : W4.cell? ⟨Q1, 0, none⟩ = some (.int .u64 pk.seq) := HQ1.out.cell 0
      have q1 : W4.cell? ⟨Q1, 1, none⟩ = some (.int .u64 pk.src) := HQ1.out.cell 1
      have q2 : W4.cell? ⟨Q1, 2, none⟩ = some (.int .u64 pk.dst) := HQ1.out.cell 2
      have q3 : W4.cell? ⟨Q1, 3, none⟩ = some (.string pk.data) := HQ1.out.cell 3
      have q4 : W4.cell? ⟨Q1, 4, none⟩ = some (.int .u64 pk.timeout) := HQ1.out.cell 4
      have r0 : W4.cell? ⟨Q2, 0, none⟩ = some (.int .u64 pk.seq) := HB2.out.cell 0
      have r1 : W4.cell? ⟨Q2, 1, none⟩ = some (.int .u64 pk.src) := HB2.out.cell 1
      have r2 : W4.cell? ⟨Q2, 2, none⟩ = some (.int .u64 pk.dst) := HB2.out.cell 2
      have r3 : W4.cell? ⟨Q2, 3, none⟩ = some (.string pk.data) := HB2.out.cell 3
      have r4 : W4.cell? ⟨Q2, 4, none⟩ = some (.int .u64 pk.timeout) := HB2.out.cell 4
      have hq1 := fun W => pk_eq2 pk pk W
      rw [(Pk.eqB_iff pk pk).2 rfl] at hq1
      by_cases h4 : 400 < dt.size
      · have hsc : sc = 181 := by rw [← HSc.out]; unfold sendCode; rw [if_pos h4]
        subst hsc
        clear h4
        go_upto_region 37 with fail
        clear q0 q1 q2 q3 q4 r0 r1 r2 r3 r4 hq1 HQ1 HB2
        have hsq : u64r p.seq := HP.out.seq
        obtain ⟨sn, hsn⟩ : ∃ z, s2 = z := ⟨_, rfl⟩
        rw [hsn] at HW4
        clear hsn
        obtain ⟨s1, hs1⟩ : ∃ z, (sn.sent p.seq).getD ByteArray.empty = z := ⟨_, rfl⟩
        obtain ⟨b1, hb1⟩ : ∃ z, (sn.sent p.seq).isSome = z := ⟨_, rfl⟩
        obtain ⟨s2, hs2⟩ : ∃ z, (sn.written p.seq).getD ByteArray.empty = z := ⟨_, rfl⟩
        obtain ⟨b2, hb2⟩ : ∃ z, (sn.written p.seq).isSome = z := ⟨_, rfl⟩
        obtain ⟨b3, hb3⟩ : ∃ z, sn.came p.seq = z := ⟨_, rfl⟩
        obtain ⟨n1, hn1⟩ : ∃ z, sn.send = z := ⟨_, rfl⟩
        obtain ⟨n2, hn2⟩ : ∃ z, sn.recv = z := ⟨_, rfl⟩
        obtain ⟨n3, hn3⟩ : ∃ z, sn.ack = z := ⟨_, rfl⟩
        have y0 : W4.cell? ⟨Y, 0, none⟩ = some (.int .u64 p.seq) := HY4.out.cell 0
        have hc := sent_is W4 B (m + 1) sn p.seq HW4.out.fa hsq
        rw [hs1, hb1] at hc
        go_wp2_with fail
        refine hc.mono ?_
        clear hc
        rintro e Wq ⟨rfl, rfl⟩
        clear y0
        have y0 : W4.cell? ⟨Y, 0, none⟩ = some (.int .u64 p.seq) := HY4.out.cell 0
        have hc := rsent_is W4 w.heap.size g (n + 1) sn p.seq HW4.out.rf (by omega)
        rw [hs1, hb1] at hc
        go_wp2_with fail
        refine hc.mono ?_
        clear hc
        rintro e Wq ⟨rfl, hb⟩
        have HWt1 := Lib.hid (HW4.out.below hb)
        have HYt1 := Lib.hid (HY4.out.below hb)
        clear hb y0 HW4 HY4
        generalize Wq = Wt1 at HWt1 HYt1 ⊢
        have y0 : Wt1.cell? ⟨Y, 0, none⟩ = some (.int .u64 p.seq) := HYt1.out.cell 0
        have hc := written_is Wt1 B (m + 1) sn p.seq HWt1.out.fa hsq
        rw [hs2, hb2] at hc
        go_wp2_with fail
        refine hc.mono ?_
        clear hc
        rintro e Wq ⟨rfl, rfl⟩
        clear y0
        have y0 : Wt1.cell? ⟨Y, 0, none⟩ = some (.int .u64 p.seq) := HYt1.out.cell 0
        have hc := rwritten_is Wt1 w.heap.size g (n + 1) sn p.seq HWt1.out.rf (by omega)
        rw [hs2, hb2] at hc
        go_wp2_with fail
        refine hc.mono ?_
        clear hc
        rintro e Wq ⟨rfl, hb⟩
        have HWt2 := Lib.hid (HWt1.out.below hb)
        have HYt2 := Lib.hid (HYt1.out.below hb)
        clear hb y0 HWt1 HYt1
        generalize Wq = Wt2 at HWt2 HYt2 ⊢
        have y0 : Wt2.cell? ⟨Y, 0, none⟩ = some (.int .u64 p.seq) := HYt2.out.cell 0
        have hc := next_same Wt2 B (m + 1) sn HWt2.out.fa
        rw [hn1, hn2, hn3] at hc
        go_wp2_with fail
        refine hc.mono ?_
        clear hc
        rintro e Wq ⟨rfl, hb⟩
        have HWt3 := Lib.hid (HWt2.out.below hb)
        have HYt3 := Lib.hid (HYt2.out.below hb)
        clear hb y0 HWt2 HYt2
        generalize Wq = Wt3 at HWt3 HYt3 ⊢
        have y0 : Wt3.cell? ⟨Y, 0, none⟩ = some (.int .u64 p.seq) := HYt3.out.cell 0
        have hc := rnext_is Wt3 w.heap.size g (n + 1) sn HWt3.out.rf
        rw [hn1, hn2, hn3] at hc
        go_wp2_with fail
        refine hc.mono ?_
        clear hc
        rintro e Wq ⟨rfl, hb⟩
        have HWt4 := Lib.hid (HWt3.out.below hb)
        have HYt4 := Lib.hid (HYt3.out.below hb)
        clear hb y0 HWt3 HYt3
        generalize Wq = Wt4 at HWt4 HYt4 ⊢
        have y0 : Wt4.cell? ⟨Y, 0, none⟩ = some (.int .u64 p.seq) := HYt4.out.cell 0
        have HC1 : Hid (∀ k, Calls Tryd.prog 22 #[.pointer (some ⟨B.f, 0, none⟩), .int .u64 p.seq] (Wt4.drewN k) fun e w' => e = .returned (.bool b3) ∧ w' = Wt4.drewN k) := Lib.hid (fun k => (came_is _ B (m + 1) sn p.seq ((HWt4.out.below (below_drewN' (Below.refl _ _) k)).fa) hsq).mono fun e w' ⟨h1, h2⟩ => ⟨by rw [h1, hb3], h2.symm⟩)
        have HC2 : Hid (∀ k, Calls Tryd.prog 46 #[.pointer (some ⟨g, 0, none⟩), .int .u64 p.seq] (Wt4.drewN k) fun e w' => e = .returned (.bool b3) ∧ w' = Wt4.drewN k) := Lib.hid (fun k => (rcame_is _ w.heap.size g (n + 1) sn p.seq ((HWt4.out.below (below_drewN' (Below.refl _ _) k)).rf) (by omega) hsq).mono fun e w' ⟨h1, h2⟩ => ⟨by rw [h1, hb3], h2.symm⟩)
        clear hs1 hb1 hs2 hb2 hb3 hn1 hn2 hn3
        go_wp2_with fail
        go_quiet ((first | (go_at_call 22; exact Calls.quiet_of_same (HC1.out _)) | (go_at_call 46; exact Calls.quiet_of_same (HC2.out _))))
        go_wp2_with fail
        exact hK9.out _ _ ⟨rfl, rfl, rfl, rfl, rfl, rfl, rfl, rfl, B, ps, sn, (m + 1), (n + 1), rfl, by omega, by omega, by omega, HWt4.out.below (below_drewN' (Below.refl _ _) nq)⟩
      · have hsc : sc = 0 := by rw [← HSc.out]; unfold sendCode; rw [if_neg h4]
        subst hsc
        have HPo : Hid pk.ok := Lib.hid (by
          rw [← HPkt.out]
          unfold Fl.pkt
          rw [if_neg h4]
          exact ⟨HSe.out, wrap_r _, ⟨by show (0 : Int) ≤ 2; omega, by show (2 : Int) ≤ _; omega⟩, ⟨by show 0 ≤ a9; omega, by show a9 ≤ _; omega⟩, od⟩)
        clear h4
        obtain ⟨ao, cp, hV, _⟩ := HW4.out.row.at_
        subst hV
        obtain ⟨i0, hi, hz0, hz1, hz2⟩ := info_parts info_pk
        have HIp := Lib.hid (And.intro hi (And.intro hz0 (And.intro hz1 hz2)))
        clear hi hz0 hz1 hz2
        have HW5 := Lib.hid (HW4.out.below (balloc (Below.refl _ W4) (.cells #[.int .u64 pk.seq, .int .u64 pk.src, .int .u64 pk.dst, .string pk.data, .int .u64 pk.timeout] 24)))
        have HY5 := Lib.hid (HY4.out.alloc (.cells #[.int .u64 pk.seq, .int .u64 pk.src, .int .u64 pk.dst, .string pk.data, .int .u64 pk.timeout] 24))
        have hsz := HW4.out.bel.size
        go_wp2_with (at_builtin; refine wpList_append_lies _ rfl _ _ 45 rfl w.heap.size 24 i0 (.agg #[.int .u64 0, .int .u64 0, .int .u64 0, .string ⟨#[]⟩, .int .u64 0]) 5 48 Tryd.underlying45 HIp.out.1 HIp.out.2.1 HIp.out.2.2.1 HIp.out.2.2.2 rfl (by decide) _ _ _ rfl HW5.out.row ⟨W4.heap.size, 0, none⟩ 1 1 (pkC pk) rfl rfl ?c1 ?c2 (by decide) ?c3 ?c4 ?c5 _ rfl ?_)
        case c1 => exact World.news_of_block (heap_alloc_new W4 _)
        case c2 => intro x hx; simp [pkC] at hx; rcases hx with rfl | rfl | rfl | rfl | rfl <;> rfl
        case c3 => unfold maxLen; omega
        case c4 => omega
        case c5 => simp; omega
        intro g7 cap7 W7 hown7 hgrow7 hat7 hlt7
        have HW7 := Lib.hid (HW5.out.grown hgrow7 (p := pk) (by unfold RowP; rw [List.length_append, List.length_singleton, pC_app]; simpa [pC] using hown7) HPo.out)
        have HY7 : Hid (Blk W7 Y 24 p.cs) := Lib.hid (HY5.out.only (Only.of_grown hgrow7) (fun hm => HYv.out Y (by simpa using hm) rfl))
        clear hown7 hgrow7 hat7 hlt7 HW4 HY4 HW5 HY5 HIp
        go_upto_region 37 with fail
        clear q0 q1 q2 q3 q4 r0 r1 r2 r3 r4 hq1 HQ1 HB2
        have hsq : u64r p.seq := HP.out.seq
        obtain ⟨sn, hsn⟩ : ∃ z, s2 = z := ⟨_, rfl⟩
        rw [hsn] at HW7
        clear hsn
        obtain ⟨s1, hs1⟩ : ∃ z, (sn.sent p.seq).getD ByteArray.empty = z := ⟨_, rfl⟩
        obtain ⟨b1, hb1⟩ : ∃ z, (sn.sent p.seq).isSome = z := ⟨_, rfl⟩
        obtain ⟨s2, hs2⟩ : ∃ z, (sn.written p.seq).getD ByteArray.empty = z := ⟨_, rfl⟩
        obtain ⟨b2, hb2⟩ : ∃ z, (sn.written p.seq).isSome = z := ⟨_, rfl⟩
        obtain ⟨b3, hb3⟩ : ∃ z, sn.came p.seq = z := ⟨_, rfl⟩
        obtain ⟨n1, hn1⟩ : ∃ z, sn.send = z := ⟨_, rfl⟩
        obtain ⟨n2, hn2⟩ : ∃ z, sn.recv = z := ⟨_, rfl⟩
        obtain ⟨n3, hn3⟩ : ∃ z, sn.ack = z := ⟨_, rfl⟩
        have y0 : W7.cell? ⟨Y, 0, none⟩ = some (.int .u64 p.seq) := HY7.out.cell 0
        have hc := sent_is W7 B (m + 1) sn p.seq HW7.out.fa hsq
        rw [hs1, hb1] at hc
        go_wp2_with fail
        refine hc.mono ?_
        clear hc
        rintro e Wq ⟨rfl, rfl⟩
        clear y0
        have y0 : W7.cell? ⟨Y, 0, none⟩ = some (.int .u64 p.seq) := HY7.out.cell 0
        have hc := rsent_is W7 w.heap.size g (n + 1) sn p.seq HW7.out.rf (by omega)
        rw [hs1, hb1] at hc
        go_wp2_with fail
        refine hc.mono ?_
        clear hc
        rintro e Wq ⟨rfl, hb⟩
        have HWt1 := Lib.hid (HW7.out.below hb)
        have HYt1 := Lib.hid (HY7.out.below hb)
        clear hb y0 HW7 HY7
        generalize Wq = Wt1 at HWt1 HYt1 ⊢
        have y0 : Wt1.cell? ⟨Y, 0, none⟩ = some (.int .u64 p.seq) := HYt1.out.cell 0
        have hc := written_is Wt1 B (m + 1) sn p.seq HWt1.out.fa hsq
        rw [hs2, hb2] at hc
        go_wp2_with fail
        refine hc.mono ?_
        clear hc
        rintro e Wq ⟨rfl, rfl⟩
        clear y0
        have y0 : Wt1.cell? ⟨Y, 0, none⟩ = some (.int .u64 p.seq) := HYt1.out.cell 0
        have hc := rwritten_is Wt1 w.heap.size g (n + 1) sn p.seq HWt1.out.rf (by omega)
        rw [hs2, hb2] at hc
        go_wp2_with fail
        refine hc.mono ?_
        clear hc
        rintro e Wq ⟨rfl, hb⟩
        have HWt2 := Lib.hid (HWt1.out.below hb)
        have HYt2 := Lib.hid (HYt1.out.below hb)
        clear hb y0 HWt1 HYt1
        generalize Wq = Wt2 at HWt2 HYt2 ⊢
        have y0 : Wt2.cell? ⟨Y, 0, none⟩ = some (.int .u64 p.seq) := HYt2.out.cell 0
        have hc := next_same Wt2 B (m + 1) sn HWt2.out.fa
        rw [hn1, hn2, hn3] at hc
        go_wp2_with fail
        refine hc.mono ?_
        clear hc
        rintro e Wq ⟨rfl, hb⟩
        have HWt3 := Lib.hid (HWt2.out.below hb)
        have HYt3 := Lib.hid (HYt2.out.below hb)
        clear hb y0 HWt2 HYt2
        generalize Wq = Wt3 at HWt3 HYt3 ⊢
        have y0 : Wt3.cell? ⟨Y, 0, none⟩ = some (.int .u64 p.seq) := HYt3.out.cell 0
        have hc := rnext_is Wt3 w.heap.size g (n + 1) sn HWt3.out.rf
        rw [hn1, hn2, hn3] at hc
        go_wp2_with fail
        refine hc.mono ?_
        clear hc
        rintro e Wq ⟨rfl, hb⟩
        have HWt4 := Lib.hid (HWt3.out.below hb)
        have HYt4 := Lib.hid (HYt3.out.below hb)
        clear hb y0 HWt3 HYt3
        generalize Wq = Wt4 at HWt4 HYt4 ⊢
        have y0 : Wt4.cell? ⟨Y, 0, none⟩ = some (.int .u64 p.seq) := HYt4.out.cell 0
        have HC1 : Hid (∀ k, Calls Tryd.prog 22 #[.pointer (some ⟨B.f, 0, none⟩), .int .u64 p.seq] (Wt4.drewN k) fun e w' => e = .returned (.bool b3) ∧ w' = Wt4.drewN k) := Lib.hid (fun k => (came_is _ B (m + 1) sn p.seq ((HWt4.out.below (below_drewN' (Below.refl _ _) k)).fa) hsq).mono fun e w' ⟨h1, h2⟩ => ⟨by rw [h1, hb3], h2.symm⟩)
        have HC2 : Hid (∀ k, Calls Tryd.prog 46 #[.pointer (some ⟨g, 0, none⟩), .int .u64 p.seq] (Wt4.drewN k) fun e w' => e = .returned (.bool b3) ∧ w' = Wt4.drewN k) := Lib.hid (fun k => (rcame_is _ w.heap.size g (n + 1) sn p.seq ((HWt4.out.below (below_drewN' (Below.refl _ _) k)).rf) (by omega) hsq).mono fun e w' ⟨h1, h2⟩ => ⟨by rw [h1, hb3], h2.symm⟩)
        clear hs1 hb1 hs2 hb2 hb3 hn1 hn2 hn3
        go_wp2_with fail
        go_quiet ((first | (go_at_call 22; exact Calls.quiet_of_same (HC1.out _)) | (go_at_call 46; exact Calls.quiet_of_same (HC2.out _))))
        go_wp2_with fail
        exact hK9.out _ _ ⟨rfl, rfl, rfl, rfl, rfl, rfl, rfl, rfl, B, _, sn, (m + 1), (n + 1), rfl, by rw [List.length_append, List.length_singleton]; omega, by omega, by omega, HWt4.out.below (below_drewN' (Below.refl _ _) nq)⟩
    · exact KStep.plain rfl fun ρ d u W he hc hdi hd hJ => swp_val (run_move (he.o h11 rfl)) (hJ.pure 0 rfl rfl)
    · exact KStep.plain rfl fun ρ d u W he hc hdi hd hJ => swp_val (run_fieldAddr (he.o h14 rfl) (by go_simp)) (hJ.pure 1 rfl rfl)
    · exact KStep.plain rfl fun ρ d u W he hc hdi hd hJ => swp_val (run_load (he.i hz (hJ.vals 1 (hd 1 (by kernel_rfl))) (j := 1) (d := 125) rfl (by decide)) (ld_i ((pS3_x (show pS3 w B g V ps s s2 s s2 m (m + 1) n (n + 1) X (acC what which later dt) Y p [Q1] pk (u 14) true (d 10) (d 14) (d 15) W from hJ.st)).cell 1))) (hJ.pure 2 rfl rfl)
    · exact KStep.plain rfl fun ρ d u W he hc hdi hd hJ => swp_val (run_convert (he.i hz (hJ.vals 2 (hd 2 (by kernel_rfl))) (j := 2) (d := 126) rfl (by decide)) (conv_wr _ W)) (hJ.pure 3 rfl rfl)
    · exact KStep.plain rfl fun ρ d u W he hc hdi hd hJ => swp_val (run_fieldAddr (he.o h14 rfl) (by go_simp)) (hJ.pure 4 rfl rfl)
    · exact KStep.plain rfl fun ρ d u W he hc hdi hd hJ => swp_val (run_load (he.i hz (hJ.vals 4 (hd 4 (by kernel_rfl))) (j := 4) (d := 128) rfl (by decide)) (ld_s ((pS3_x (show pS3 w B g V ps s s2 s s2 m (m + 1) n (n + 1) X (acC what which later dt) Y p [Q1] pk (u 14) true (d 10) (d 14) (d 15) W from hJ.st)).cell 3))) (hJ.pure 5 rfl rfl)
    · exact KStep.plain rfl fun ρ d u W he hc hdi hd hJ => swp_val (run_fieldAddr (he.o h14 rfl) (by go_simp)) (hJ.pure 6 rfl rfl)
    · exact KStep.plain rfl fun ρ d u W he hc hdi hd hJ => swp_val (run_load (he.i hz (hJ.vals 6 (hd 6 (by kernel_rfl))) (j := 6) (d := 130) rfl (by decide)) (ld_i ((pS3_x (show pS3 w B g V ps s s2 s s2 m (m + 1) n (n + 1) X (acC what which later dt) Y p [Q1] pk (u 14) true (d 10) (d 14) (d 15) W from hJ.st)).cell 2))) (hJ.pure 7 rfl rfl)
    · exact KStep.plain rfl fun ρ d u W he hc hdi hd hJ => swp_call (run_call #[.int .i64 later, .int .i64 9] (he.func _) (by kernel_rfl) (map2 (he.i hz (hJ.vals 7 (hd 7 (by kernel_rfl))) (j := 7) (d := 131) rfl (by decide)) (he.const _))) (HPk9.out W) (fun e W' h => ⟨_, h.1, h.2 ▸ hJ.pure 8 rfl rfl⟩)
    · exact KStep.plain rfl fun ρ d u W he hc hdi hd hJ => swp_val (run_convert (he.i hz (hJ.vals 8 (hd 8 (by kernel_rfl))) (j := 8) (d := 132) rfl (by decide)) (conv_iu _ (by omega) (by omega) W)) (hJ.pure 9 rfl rfl)
    · refine KStep.plain rfl fun ρ d u W he hc hdi hd hJ => ?_
      have hS : pS3 w B g V ps s s2 s s2 m (m + 1) n (n + 1) X (acC what which later dt) Y p [Q1] pk (u 14) true (d 10) (d 14) (d 15) W := hJ.st
      rw [hdi] at hS
      exact swp_call (run_call #[.pointer (some ⟨g, 0, none⟩), .int .u64 (IntKind.u64.wrap which), .int .u64 2, .string dt, .int .u64 a9] (he.func _) (by kernel_rfl) (mp5 (he.i hz (hJ.vals 0 (hd 0 (by kernel_rfl))) (j := 0) (d := 124) rfl (by decide)) (he.i hz (hJ.vals 3 (hd 3 (by kernel_rfl))) (j := 3) (d := 127) rfl (by decide)) (he.const _) (he.i hz (hJ.vals 5 (hd 5 (by kernel_rfl))) (j := 5) (d := 129) rfl (by decide)) (he.i hz (hJ.vals 9 (hd 9 (by kernel_rfl))) (j := 9) (d := 133) rfl (by decide)))) (rsendf_is W hS.1.1.glob w.heap.size g n s (IntKind.u64.wrap which) 2 a9 dt hS.1.1.rf (by omega) (wrap_r _) ⟨by omega, by omega⟩ ⟨by omega, by omega⟩ od) (fun e W' h => ⟨_, by rw [h.1, HPkt.out, HSc.out], hJ.go 10 rfl (show pS3 w B g V ps s s2 s s2 m (m + 1) n (n + 1) X (acC what which later dt) Y p [Q1] pk (put1 u 10 (.tuple #[pk.v, .int .i64 sc]) 14) true (did d 10 10) (did d 10 14) (did d 10 15) W' from (by rw [did_at, did_ne d (by decide), did_ne d (by decide), put1_ne u _ (by decide)]; exact pS3_B hS (HS2.out ▸ h.2)))⟩)
    · exact KStep.plain rfl fun ρ d u W he hc hdi hd hJ => swp_val (run_move (he.i hz (hJ.vals 10 (hd 10 (by kernel_rfl))) (j := 10) (d := 134) rfl (by decide))) (hJ.pure 11 rfl rfl)
    · exact KStep.plain rfl fun ρ d u W he hc hdi hd hJ => swp_val (run_extract (he.i hz (hJ.vals 11 (hd 11 (by kernel_rfl))) (j := 11) (d := 123) rfl (by decide)) (ex0 _ _ W)) (hJ.pure 12 rfl rfl)
    · exact KStep.plain rfl fun ρ d u W he hc hdi hd hJ => swp_val (run_extract (he.i hz (hJ.vals 11 (hd 11 (by kernel_rfl))) (j := 11) (d := 123) rfl (by decide)) (ex1 _ _ W)) (hJ.pure 13 rfl rfl)
    · refine KStep.plain rfl fun ρ d u W he hc hdi hd hJ => ?_
      have hS : pS3 w B g V ps s s2 s s2 m (m + 1) n (n + 1) X (acC what which later dt) Y p [Q1] pk (u 14) true (d 10) (d 14) (d 15) W := hJ.st
      have h15 : d 15 = false := hc.notyet [14] (by kernel_rfl) rfl hdi
      rw [hdi, h15] at hS
      exact swp_val (run_alc (alc_pk _)) (hJ.go 14 trivial (show pS3 w B g V ps s s2 s s2 m (m + 1) n (n + 1) X (acC what which later dt) Y p [Q1] pk (put1 u 14 (.pointer (some ⟨W.heap.size, 0, none⟩)) 14) true (did d 14 10) (did d 14 14) (did d 14 15) (W.alloc (.cells Pk.zero.cs 24)) from (by rw [did_at, did_ne d (by decide), did_ne d (by decide), put1_at, h15]; exact pS3_make hS)))
    · refine KStep.plain rfl fun ρ d u W he hc hdi hd hJ => ?_
      have hS : pS3 w B g V ps s s2 s s2 m (m + 1) n (n + 1) X (acC what which later dt) Y p [Q1] pk (u 14) true (d 10) (d 14) (d 15) W := hJ.st
      rw [hdi, hd 14 (by kernel_rfl)] at hS
      obtain ⟨q, hq, hB, hF⟩ := pS3_fill hS
      exact swp_skip (run_store (he.i hz hq (j := 14) (d := 19) rfl (by decide)) (he.i hz (hJ.vals 12 (hd 12 (by kernel_rfl))) (j := 12) (d := 135) rfl (by decide)) (st_pk pk Pk.zero hB)) (hJ.go 15 trivial (show pS3 w B g V ps s s2 s s2 m (m + 1) n (n + 1) X (acC what which later dt) Y p [Q1] pk (put1 u 15 (undef) 14) true (did d 15 10) (did d 15 14) (did d 15 15) _ from (by rw [did_at, did_ne d (by decide), did_ne d (by decide), put1_ne u _ (by decide), hd 14 (by kernel_rfl)]; exact hF)))
    · exact KStep.plain rfl fun ρ d u W he hc hdi hd hJ => swp_val (run_assign (he.i hz (hJ.vals 13 (hd 13 (by kernel_rfl))) (j := 13) (d := 136) rfl (by decide))) (hJ.pure 16 rfl rfl)
  · exact KStep.plain rfl fun ρ d u W he hc hdi hd hJ => swp_val (run_move (he.o h10 rfl)) (hJ.pure 0 rfl rfl)
  · exact KStep.plain rfl fun ρ d u W he hc hdi hd hJ => swp_val (run_fieldAddr (he.o h14 rfl) (by go_simp)) (hJ.pure 1 rfl rfl)
  · exact KStep.plain rfl fun ρ d u W he hc hdi hd hJ => swp_val (run_load (he.i hz (hJ.vals 1 (hd 1 (by kernel_rfl))) (j := 1) (d := 111) rfl (by decide)) (ld_i ((pS3_x (show pS3 w B g V ps s s2 s s2 m (m + 1) n (n + 1) X (acC what which later dt) Y p [] pk (u 14) (d 10) false (d 14) (d 15) W from hJ.st)).cell 1))) (hJ.pure 2 rfl rfl)
  · exact KStep.plain rfl fun ρ d u W he hc hdi hd hJ => swp_val (run_convert (he.i hz (hJ.vals 2 (hd 2 (by kernel_rfl))) (j := 2) (d := 112) rfl (by decide)) (conv_wr _ W)) (hJ.pure 3 rfl rfl)
  · exact KStep.plain rfl fun ρ d u W he hc hdi hd hJ => swp_val (run_fieldAddr (he.o h14 rfl) (by go_simp)) (hJ.pure 4 rfl rfl)
  · exact KStep.plain rfl fun ρ d u W he hc hdi hd hJ => swp_val (run_load (he.i hz (hJ.vals 4 (hd 4 (by kernel_rfl))) (j := 4) (d := 114) rfl (by decide)) (ld_s ((pS3_x (show pS3 w B g V ps s s2 s s2 m (m + 1) n (n + 1) X (acC what which later dt) Y p [] pk (u 14) (d 10) false (d 14) (d 15) W from hJ.st)).cell 3))) (hJ.pure 5 rfl rfl)
  · exact KStep.plain rfl fun ρ d u W he hc hdi hd hJ => swp_val (run_fieldAddr (he.o h14 rfl) (by go_simp)) (hJ.pure 6 rfl rfl)
  · exact KStep.plain rfl fun ρ d u W he hc hdi hd hJ => swp_val (run_load (he.i hz (hJ.vals 6 (hd 6 (by kernel_rfl))) (j := 6) (d := 116) rfl (by decide)) (ld_i ((pS3_x (show pS3 w B g V ps s s2 s s2 m (m + 1) n (n + 1) X (acC what which later dt) Y p [] pk (u 14) (d 10) false (d 14) (d 15) W from hJ.st)).cell 2))) (hJ.pure 7 rfl rfl)
  · exact KStep.plain rfl fun ρ d u W he hc hdi hd hJ => swp_call (run_call #[.int .i64 later, .int .i64 9] (he.func _) (by kernel_rfl) (map2 (he.i hz (hJ.vals 7 (hd 7 (by kernel_rfl))) (j := 7) (d := 117) rfl (by decide)) (he.const _))) (HPk9.out W) (fun e W' h => ⟨_, h.1, h.2 ▸ hJ.pure 8 rfl rfl⟩)
  · exact KStep.plain rfl fun ρ d u W he hc hdi hd hJ => swp_val (run_convert (he.i hz (hJ.vals 8 (hd 8 (by kernel_rfl))) (j := 8) (d := 118) rfl (by decide)) (conv_iu _ (by omega) (by omega) W)) (hJ.pure 9 rfl rfl)
  · refine KStep.plain rfl fun ρ d u W he hc hdi hd hJ => ?_
    have hS : pS3 w B g V ps s s2 s s2 m (m + 1) n (n + 1) X (acC what which later dt) Y p [] pk (u 14) (d 10) false (d 14) (d 15) W := hJ.st
    rw [hdi] at hS
    exact swp_call (run_call #[.pointer (some ⟨B.f, 0, none⟩), .int .u64 (IntKind.u64.wrap which), .int .u64 2, .string dt, .int .u64 a9] (he.func _) (by kernel_rfl) (mp5 (he.i hz (hJ.vals 0 (hd 0 (by kernel_rfl))) (j := 0) (d := 110) rfl (by decide)) (he.i hz (hJ.vals 3 (hd 3 (by kernel_rfl))) (j := 3) (d := 113) rfl (by decide)) (he.const _) (he.i hz (hJ.vals 5 (hd 5 (by kernel_rfl))) (j := 5) (d := 115) rfl (by decide)) (he.i hz (hJ.vals 9 (hd 9 (by kernel_rfl))) (j := 9) (d := 119) rfl (by decide)))) (send_is W hS.1.1.glob.g B m s (IntKind.u64.wrap which) 2 a9 dt hS.1.1.fa (wrap_r _) ⟨by omega, by omega⟩ ⟨by omega, by omega⟩ od (by unfold maxLen; omega)) (fun e W' h => ⟨_, by rw [h.1, HPkt.out, HSc.out], hJ.go 10 rfl (show pS3 w B g V ps s s2 s s2 m (m + 1) n (n + 1) X (acC what which later dt) Y p [] pk (put1 u 10 (.tuple #[pk.v, .int .i64 sc]) 14) (did d 10 10) false (did d 10 14) (did d 10 15) W' from (by rw [did_at, did_ne d (by decide), did_ne d (by decide), put1_ne u _ (by decide)]; exact pS3_A hS (HS2.out ▸ h.2.1) h.2.2))⟩)
  · exact KStep.plain rfl fun ρ d u W he hc hdi hd hJ => swp_val (run_move (he.i hz (hJ.vals 10 (hd 10 (by kernel_rfl))) (j := 10) (d := 120) rfl (by decide))) (hJ.pure 11 rfl rfl)
  · exact KStep.plain rfl fun ρ d u W he hc hdi hd hJ => swp_val (run_extract (he.i hz (hJ.vals 11 (hd 11 (by kernel_rfl))) (j := 11) (d := 109) rfl (by decide)) (ex0 _ _ W)) (hJ.pure 12 rfl rfl)
  · exact KStep.plain rfl fun ρ d u W he hc hdi hd hJ => swp_val (run_extract (he.i hz (hJ.vals 11 (hd 11 (by kernel_rfl))) (j := 11) (d := 109) rfl (by decide)) (ex1 _ _ W)) (hJ.pure 13 rfl rfl)
  · refine KStep.plain rfl fun ρ d u W he hc hdi hd hJ => ?_
    have hS : pS3 w B g V ps s s2 s s2 m (m + 1) n (n + 1) X (acC what which later dt) Y p [] pk (u 14) (d 10) false (d 14) (d 15) W := hJ.st
    have h15 : d 15 = false := hc.notyet [14] (by kernel_rfl) rfl hdi
    rw [hdi, h15] at hS
    exact swp_val (run_alc (alc_pk _)) (hJ.go 14 trivial (show pS3 w B g V ps s s2 s s2 m (m + 1) n (n + 1) X (acC what which later dt) Y p [] pk (put1 u 14 (.pointer (some ⟨W.heap.size, 0, none⟩)) 14) (did d 14 10) false (did d 14 14) (did d 14 15) (W.alloc (.cells Pk.zero.cs 24)) from (by rw [did_at, did_ne d (by decide), did_ne d (by decide), put1_at, h15]; exact pS3_make hS)))
  · refine KStep.plain rfl fun ρ d u W he hc hdi hd hJ => ?_
    have hS : pS3 w B g V ps s s2 s s2 m (m + 1) n (n + 1) X (acC what which later dt) Y p [] pk (u 14) (d 10) false (d 14) (d 15) W := hJ.st
    rw [hdi, hd 14 (by kernel_rfl)] at hS
    obtain ⟨q, hq, hB, hF⟩ := pS3_fill hS
    exact swp_skip (run_store (he.i hz hq (j := 14) (d := 17) rfl (by decide)) (he.i hz (hJ.vals 12 (hd 12 (by kernel_rfl))) (j := 12) (d := 121) rfl (by decide)) (st_pk pk Pk.zero hB)) (hJ.go 15 trivial (show pS3 w B g V ps s s2 s s2 m (m + 1) n (n + 1) X (acC what which later dt) Y p [] pk (put1 u 15 (undef) 14) (did d 15 10) false (did d 15 14) (did d 15 15) _ from (by rw [did_at, did_ne d (by decide), did_ne d (by decide), put1_ne u _ (by decide), hd 14 (by kernel_rfl)]; exact hF)))
  · exact KStep.plain rfl fun ρ d u W he hc hdi hd hJ => swp_val (run_assign (he.i hz (hJ.vals 13 (hd 13 (by kernel_rfl))) (j := 13) (d := 122) rfl (by decide))) (hJ.pure 16 rfl rfl)
end Go.Proofs.YtpekbnkmnellpaaDoor
