/-
  FlowPlays: the other acts; the walk, joined.
-/
import Derived.Test.YtpekbnkmnellpaaDoorPlayB
import Derived.Test.YtpekbnkmnellpaaDoorPlaySd
namespace Go.Proofs.YtpekbnkmnellpaaDoor
open Go.RowKit Go.Maps
set_option linter.unusedVariables false
set_option maxRecDepth 100000 in
set_option maxHeartbeats 32000000 in
theorem play_exit (w : World) (o : Bool) (v1 : Option Addr) (c1 : Nat) (acts : List ActR) (A1 : ActsAt w (.slice v1 acts.length c1) acts) (v2 : Option Addr) (c2 : Nat) (anyl : List Pk) (A2 : PksAt w (.slice v2 anyl.length c2) anyl) (hh : Int) (g : Nat) (K2 : Act → World → Prop) (Q2 : Exit → Act → World → Prop) (hK2 : ∀ (a : Act) (W : World), a.tmps.size = 284 → a.defers = [] → Below w.heap.size w W → K2 a W) (gk : Nat) (a0 : Act) (wr : World) (J : Nat → Act → World → Prop) (K : Act → World → Prop)
    (hJ : ∀ k a' w', PFr o w (.slice v1 acts.length c1) (.slice v2 anyl.length c2) hh g k a' w' → J k a' w') (hK : ∀ a' w', Handed J gk a' w' → K a' w')
    (hs : a0.tmps.size = 284) (hd : a0.defers = []) (e0 : a0.tmps.getD 0 undef = .bool o) (e1 : a0.tmps.getD 1 undef = .slice v1 acts.length c1) (e2 : a0.tmps.getD 2 undef = .slice v2 anyl.length c2) (e3 : a0.tmps.getD 3 undef = .int .u64 hh) (e11 : a0.tmps.getD 11 undef = .pointer (some ⟨g, 0, none⟩))
    (j : Nat) (B : FB) (ps : List Pk) (s : Fl) (m n : Nat) (hj : j ≤ 50) (hk : gk = 50 - j) (e10 : a0.tmps.getD 10 undef = .pointer (some ⟨B.f, 0, none⟩)) (e13 : a0.tmps.getD 13 undef = .int .i64 (j : Int)) (hpl : ps.length ≤ j) (hm : m ≤ j) (hn : n ≤ j) (hW : PW w B g (a0.tmps.getD 12 undef) ps s s m n wr) (hlt : ¬ (j < acts.length ∧ j < 50)) : playCut.c.wp Tryd.prog (Exit.then K (Exit.inBlock 0 (Exit.then K2 Q2))) a0 wr := by
  unfold playCut
  dsimp only
  obtain ⟨u, hu, ha⟩ := frame284 a0 hs hd
  rw [hu] at e0 e1 e2 e3 e10 e11 e13
  rw [hu] at hW
  obtain ⟨ao, cp, h12, _⟩ := hW.row.at_
  rw [h12] at hW
  rw [ha, e0, e1, e2, e3, e10, e11, e13, h12]
  clear hs hd hu ha e0 e1 e2 e3 e10 e11 e13 h12
  clear a0
  have HK := Lib.hid hk
  have HW := Lib.hid hW
  clear hk hW
  by_cases ha : j < acts.length
  · have hc : ¬ j < 50 := fun h => hlt ⟨ha, h⟩
    clear hlt
    go_wp2_with fail
    exact hK2 _ _ rfl rfl HW.out.bel
  · clear hlt
    go_wp2_with fail
    exact hK2 _ _ rfl rfl HW.out.bel
end Go.Proofs.YtpekbnkmnellpaaDoor
namespace Go.Proofs.YtpekbnkmnellpaaDoor
open Go.RowKit Go.Maps
set_option linter.unusedVariables false
def plytwo30V (f g X Y : Nat) (hh : Int) (dt : ByteArray) (p : Pk) (c : Int) (i : Nat) (v : Value) : Prop := match i with
  | 0 => v = .pointer (some ⟨f, 0, none⟩)
  | 1 => v = .agg #[.int .u64 p.seq, .int .u64 p.src, .int .u64 p.dst, .string p.data, .int .u64 p.timeout]
  | 2 => v = .int .u64 hh
  | 3 => v = .int .i64 c
  | 4 => v = .pointer (some ⟨g, 0, none⟩)
  | 5 => v = .agg #[.int .u64 p.seq, .int .u64 p.src, .int .u64 p.dst, .string p.data, .int .u64 p.timeout]
  | 6 => v = .int .u64 hh
  | 7 => v = .int .i64 c
  | 8 => v = .bool true
  | 9 => v = .bool true
  | _ => True
set_option maxRecDepth 100000 in
set_option maxHeartbeats 32000000 in
theorem play_two (w : World) (o : Bool) (V1 V2 : Value) (hh : Int) (g j : Nat) (B : FB) (ps : List Pk) (s : Fl) (m n : Nat) (what which later : Int) (dt : ByteArray) (ow : i64r what) (oh : i64r which) (ol : i64r later) (od : dt.size ≤ 140737488351232) (hpl : ps.length ≤ j) (hm : m ≤ j) (hn : n ≤ j) (hj3 : j < 50)
    (K9 : Act → World → Prop) (Q9 : Exit → Act → World → Prop) (hK9 : Hid (∀ a W, PEnd o w V1 V2 hh g j a W → K9 a W)) (a0 : Act) (W : World) (hM : PMid o w V1 V2 hh g j B ps s m n ⟨what, which, later, dt⟩ a0 W) (HT : Hid (pickI what 8 = 2)) : playMid.c.wp Tryd.prog (Exit.inBlock 1 (Exit.then K9 Q9)) a0 W := by
  unfold playMid
  dsimp only
  obtain ⟨hs, hd, e0, e1, e2, e3, e11, e13, e10, X, Y, p, e14, e15, hW, hX, hY, hp, z1, z2⟩ := hM
  obtain ⟨u, hu, ha⟩ := frame284 a0 hs hd
  rw [hu] at e0 e1 e2 e3 e11 e13 e10 e14 e15
  rw [hu] at hW
  rw [ha, e0, e1, e2, e3, e10, e11, e13, e14, e15]
  obtain ⟨V, hV⟩ : ∃ V, u 12 = V := ⟨_, rfl⟩
  rw [hV] at hW
  rw [hV]
  have HX := Lib.hid hX
  have HW := Lib.hid hW
  have HY := Lib.hid hY
  have HP := Lib.hid hp
  have x0 : W.cell? ⟨X, 0, none⟩ = some (.int .i64 what) := hX.cell 0
  clear hs hd hu ha e0 e1 e2 e3 e11 e13 e10 hW hX hY hp e14 e15 hV z1 z2
  clear a0
  have HPk8 := Lib.hid (pick_is what 8 W ow.1 ow.2 (by omega) (by omega))
  rw [HT.out] at HPk8
  go_wp2_with fail
  refine HPk8.out.mono ?_
  rintro e W1 ⟨rfl, rfl⟩
  clear x0 HPk8 HT
  go_upto_region 30 with fail
  obtain ⟨c, hcd⟩ : ∃ z, s.recvCode p hh = z := ⟨_, rfl⟩
  have HCd := Lib.hid hcd
  clear hcd
  have HS0 : Hid (pS2 w B g V ps s (s.recvd p hh) s (s.recvd p hh) m (m + 1) n (n + 1) X (acC what which later dt) Y p false false W.drew) := Lib.hid ⟨HW.out.below (Below.refl _ W).drew, HX.out.below (Below.refl _ W).drew, HY.out.below (Below.refl _ W).drew⟩
  refine wp_abs fun a0 hA => ?_
  have h3 : a0.eval (.tmp 3) = .int .u64 hh := by rw [hA]; rfl
  have h10 : a0.eval (.tmp 10) = .pointer (some ⟨B.f, 0, none⟩) := by rw [hA]; rfl
  have h11 : a0.eval (.tmp 11) = .pointer (some ⟨g, 0, none⟩) := by rw [hA]; rfl
  have h15 : a0.eval (.tmp 15) = .pointer (some ⟨Y, 0, none⟩) := by rw [hA]; rfl
  have hz : a0.tmps.size = 284 := by rw [hA]; rfl
  refine wp_region_K [some 154, some 155, some 156, some 157, some 158, some 159, some 160, some 161, some 162, some 16] 284 (GJ (plytwo30V B.f g X Y hh dt p c) [3, 7] (fun l vs W => pS2 w B g V ps s (s.recvd p hh) s (s.recvd p hh) m (m + 1) n (n + 1) X (acC what which later dt) Y p (l.getD 0 false) (l.getD 1 false) W)) (by kernel_rfl) (by kernel_rfl) (by kernel_rfl) rfl (by kernel_rfl) hz (GJ.start HS0.out) ?_ ⟨?_, ?_, ?_, ?_, ?_, ?_, ?_, ?_, ?_, ?_, trivial⟩
  · intro d u W hd hJ
    have hS : pS2 w B g V ps s (s.recvd p hh) s (s.recvd p hh) m (m + 1) n (n + 1) X (acC what which later dt) Y p (d 3) (d 7) W := hJ.st
    rw [hd 3 (by decide), hd 7 (by decide)] at hS
    have e8 : u 9 = .bool true := hJ.vals 9 (hd 9 (by decide))
    have HW2 : Hid (PW w B g V ps (s.recvd p hh) (s.recvd p hh) (m + 1) (n + 1) W) := Lib.hid hS.1
    have HY2 := Lib.hid hS.2.2
    rw [hA]
    simp only [putAll, Act.put, List.setIfInBounds_toArray, List.set_cons_zero, List.set_cons_succ]
    clear hJ hd h3 h10 h11 h15 hz hA
    clear a0
    rw [e8]
    clear e8 hS HX HY HW
    generalize W = W2 at HW2 HY2 ⊢
    have hsq : u64r p.seq := HP.out.seq
    obtain ⟨sn, hsn⟩ : ∃ z, s.recvd p hh = z := ⟨_, rfl⟩
    rw [hsn] at HW2
    clear hsn
    obtain ⟨s1, hs1⟩ : ∃ z, (sn.sent p.seq).getD ByteArray.empty = z := ⟨_, rfl⟩
    obtain ⟨b1, hb1⟩ : ∃ z, (sn.sent p.seq).isSome = z := ⟨_, rfl⟩
    obtain ⟨s2, hs2⟩ : ∃ z, (sn.written p.seq).getD ByteArray.empty = z := ⟨_, rfl⟩
    obtain ⟨b2, hb2⟩ : ∃ z, (sn.written p.seq).isSome = z := ⟨_, rfl⟩
    obtain ⟨b3, hb3⟩ : ∃ z, sn.came p.seq = z := ⟨_, rfl⟩
    obtain ⟨n1, hn1⟩ : ∃ z, sn.send = z := ⟨_, rfl⟩
    obtain ⟨n2, hn2⟩ : ∃ z, sn.recv = z := ⟨_, rfl⟩
    obtain ⟨n3, hn3⟩ : ∃ z, sn.ack = z := ⟨_, rfl⟩
    have y0 : W2.cell? ⟨Y, 0, none⟩ = some (.int .u64 p.seq) := HY2.out.cell 0
    have hc := sent_is W2 B (m + 1) sn p.seq HW2.out.fa hsq
    rw [hs1, hb1] at hc
    go_wp2_with fail
    refine hc.mono ?_
    clear hc
    rintro e Wq ⟨rfl, rfl⟩
    clear y0
    have y0 : W2.cell? ⟨Y, 0, none⟩ = some (.int .u64 p.seq) := HY2.out.cell 0
    have hc := rsent_is W2 w.heap.size g (n + 1) sn p.seq HW2.out.rf (by omega)
    rw [hs1, hb1] at hc
    go_wp2_with fail
    refine hc.mono ?_
    clear hc
    rintro e Wq ⟨rfl, hb⟩
    have HWt1 := Lib.hid (HW2.out.below hb)
    have HYt1 := Lib.hid (HY2.out.below hb)
    clear hb y0 HW2 HY2
    generalize Wq = Wt1 at HWt1 HYt1 ⊢
    have y0 : Wt1.cell? ⟨Y, 0, none⟩ = some (.int .u64 p.seq) := HYt1.out.cell 0
    have hc := written_is Wt1 B (m + 1) sn p.seq HWt1.out.fa hsq
    rw [hs2, hb2] at hc
    go_wp2_with fail
    refine hc.mono ?_
    clear hc
    rintro e Wq ⟨rfl, rfl⟩
    clear y0
    have y0 : Wt1.cell? ⟨Y, 0, none⟩ = some (.int .u64 p.seq) := HYt1.out.cell 0
    have hc := rwritten_is Wt1 w.heap.size g (n + 1) sn p.seq HWt1.out.rf (by omega)
    rw [hs2, hb2] at hc
    go_wp2_with fail
    refine hc.mono ?_
    clear hc
    rintro e Wq ⟨rfl, hb⟩
    have HWt2 := Lib.hid (HWt1.out.below hb)
    have HYt2 := Lib.hid (HYt1.out.below hb)
    clear hb y0 HWt1 HYt1
    generalize Wq = Wt2 at HWt2 HYt2 ⊢
    have y0 : Wt2.cell? ⟨Y, 0, none⟩ = some (.int .u64 p.seq) := HYt2.out.cell 0
    have hc := next_same Wt2 B (m + 1) sn HWt2.out.fa
    rw [hn1, hn2, hn3] at hc
    go_wp2_with fail
    refine hc.mono ?_
    clear hc
    rintro e Wq ⟨rfl, hb⟩
    have HWt3 := Lib.hid (HWt2.out.below hb)
    have HYt3 := Lib.hid (HYt2.out.below hb)
    clear hb y0 HWt2 HYt2
    generalize Wq = Wt3 at HWt3 HYt3 ⊢
    have y0 : Wt3.cell? ⟨Y, 0, none⟩ = some (.int .u64 p.seq) := HYt3.out.cell 0
    have hc := rnext_is Wt3 w.heap.size g (n + 1) sn HWt3.out.rf
    rw [hn1, hn2, hn3] at hc
    go_wp2_with fail
    refine hc.mono ?_
    clear hc
    rintro e Wq ⟨rfl, hb⟩
    have HWt4 := Lib.hid (HWt3.out.below hb)
    have HYt4 := Lib.hid (HYt3.out.below hb)
    clear hb y0 HWt3 HYt3
    generalize Wq = Wt4 at HWt4 HYt4 ⊢
    have y0 : Wt4.cell? ⟨Y, 0, none⟩ = some (.int .u64 p.seq) := HYt4.out.cell 0
    have HC1 : Hid (∀ k, Calls Tryd.prog 22 #[.pointer (some ⟨B.f, 0, none⟩), .int .u64 p.seq] (Wt4.drewN k) fun e w' => e = .returned (.bool b3) ∧ w' = Wt4.drewN k) := Lib.hid (fun k => (came_is _ B (m + 1) sn p.seq ((HWt4.out.below (below_drewN' (Below.refl _ _) k)).fa) hsq).mono fun e w' ⟨h1, h2⟩ => ⟨by rw [h1, hb3], h2.symm⟩)
    have HC2 : Hid (∀ k, Calls Tryd.prog 46 #[.pointer (some ⟨g, 0, none⟩), .int .u64 p.seq] (Wt4.drewN k) fun e w' => e = .returned (.bool b3) ∧ w' = Wt4.drewN k) := Lib.hid (fun k => (rcame_is _ w.heap.size g (n + 1) sn p.seq ((HWt4.out.below (below_drewN' (Below.refl _ _) k)).rf) (by omega) hsq).mono fun e w' ⟨h1, h2⟩ => ⟨by rw [h1, hb3], h2.symm⟩)
    clear hs1 hb1 hs2 hb2 hb3 hn1 hn2 hn3
    go_wp2_with fail
    go_quiet ((first | (go_at_call 22; exact Calls.quiet_of_same (HC1.out _)) | (go_at_call 46; exact Calls.quiet_of_same (HC2.out _))))
    go_wp2_with fail
    exact hK9.out _ _ ⟨rfl, rfl, rfl, rfl, rfl, rfl, rfl, rfl, B, ps, sn, (m + 1), (n + 1), rfl, by omega, by omega, by omega, HWt4.out.below (below_drewN' (Below.refl _ _) nq)⟩
  · exact KStep.plain rfl fun ρ d u W he hc hdi hd hJ => swp_val (run_move (he.o h10 rfl)) (hJ.pure 0 rfl rfl)
  · exact KStep.plain rfl fun ρ d u W he hc hdi hd hJ => swp_val (run_load (he.o h15 rfl) (ld_pk (show pS2 w B g V ps s (s.recvd p hh) s (s.recvd p hh) m (m + 1) n (n + 1) X (acC what which later dt) Y p (d 3) (d 7) W from hJ.st).2.2)) (hJ.pure 1 rfl rfl)
  · exact KStep.plain rfl fun ρ d u W he hc hdi hd hJ => swp_val (run_move (he.o h3 rfl)) (hJ.pure 2 rfl rfl)
  · refine KStep.plain rfl fun ρ d u W he hc hdi hd hJ => ?_
    have hS : pS2 w B g V ps s (s.recvd p hh) s (s.recvd p hh) m (m + 1) n (n + 1) X (acC what which later dt) Y p (d 3) (d 7) W := hJ.st
    rw [hdi] at hS
    exact swp_call (run_call #[.pointer (some ⟨B.f, 0, none⟩), .agg #[.int .u64 p.seq, .int .u64 p.src, .int .u64 p.dst, .string p.data, .int .u64 p.timeout], .int .u64 hh] (he.func _) (by kernel_rfl) (map3 (he.i hz (hJ.vals 0 (hd 0 (by kernel_rfl))) (j := 0) (d := 154) rfl (by decide)) (he.i hz (hJ.vals 1 (hd 1 (by kernel_rfl))) (j := 1) (d := 155) rfl (by decide)) (he.i hz (hJ.vals 2 (hd 2 (by kernel_rfl))) (j := 2) (d := 156) rfl (by decide)))) (recv_is W B m s p hh hS.1.fa HP.out.seq (by unfold maxLen; omega)) (fun e W' h => ⟨_, by rw [h.1, HCd.out], hJ.go 3 rfl (show pS2 w B g V ps s (s.recvd p hh) s (s.recvd p hh) m (m + 1) n (n + 1) X (acC what which later dt) Y p (did d 3 3) (did d 3 7) W' from (by rw [did_at, did_ne d (by decide)]; exact pS2_A hS h.2.1 h.2.2))⟩)
  · exact KStep.plain rfl fun ρ d u W he hc hdi hd hJ => swp_val (run_move (he.o h11 rfl)) (hJ.pure 4 rfl rfl)
  · exact KStep.plain rfl fun ρ d u W he hc hdi hd hJ => swp_val (run_load (he.o h15 rfl) (ld_pk (show pS2 w B g V ps s (s.recvd p hh) s (s.recvd p hh) m (m + 1) n (n + 1) X (acC what which later dt) Y p (d 3) (d 7) W from hJ.st).2.2)) (hJ.pure 5 rfl rfl)
  · exact KStep.plain rfl fun ρ d u W he hc hdi hd hJ => swp_val (run_move (he.o h3 rfl)) (hJ.pure 6 rfl rfl)
  · refine KStep.plain rfl fun ρ d u W he hc hdi hd hJ => ?_
    have hS : pS2 w B g V ps s (s.recvd p hh) s (s.recvd p hh) m (m + 1) n (n + 1) X (acC what which later dt) Y p (d 3) (d 7) W := hJ.st
    rw [hdi] at hS
    exact swp_call (run_call #[.pointer (some ⟨g, 0, none⟩), .agg #[.int .u64 p.seq, .int .u64 p.src, .int .u64 p.dst, .string p.data, .int .u64 p.timeout], .int .u64 hh] (he.func _) (by kernel_rfl) (map3 (he.i hz (hJ.vals 4 (hd 4 (by kernel_rfl))) (j := 4) (d := 158) rfl (by decide)) (he.i hz (hJ.vals 5 (hd 5 (by kernel_rfl))) (j := 5) (d := 159) rfl (by decide)) (he.i hz (hJ.vals 6 (hd 6 (by kernel_rfl))) (j := 6) (d := 160) rfl (by decide)))) (rrecv_is W w.heap.size g n s p hh hS.1.rf (by omega)) (fun e W' h => ⟨_, by rw [h.1, HCd.out], hJ.go 7 rfl (show pS2 w B g V ps s (s.recvd p hh) s (s.recvd p hh) m (m + 1) n (n + 1) X (acC what which later dt) Y p (did d 7 3) (did d 7 7) W' from (by rw [did_at, did_ne d (by decide)]; exact pS2_B hS h.2))⟩)
  · exact KStep.plain rfl fun ρ d u W he hc hdi hd hJ => swp_val (run_bin (he.i hz (hJ.vals 3 (hd 3 (by kernel_rfl))) (j := 3) (d := 157) rfl (by decide)) (he.i hz (hJ.vals 7 (hd 7 (by kernel_rfl))) (j := 7) (d := 161) rfl (by decide)) rfl (by go_simp)) (hJ.pure 8 rfl rfl)
  · exact KStep.plain rfl fun ρ d u W he hc hdi hd hJ => swp_val (run_assign (he.i hz (hJ.vals 8 (hd 8 (by kernel_rfl))) (j := 8) (d := 162) rfl (by decide))) (hJ.pure 9 rfl rfl)
end Go.Proofs.YtpekbnkmnellpaaDoor
namespace Go.Proofs.YtpekbnkmnellpaaDoor
open Go.RowKit Go.Maps
set_option linter.unusedVariables false
def plythree30V (f g X Y : Nat) (hh : Int) (dt : ByteArray) (p : Pk) (c : Int) (i : Nat) (v : Value) : Prop := match i with
  | 0 => v = .pointer (some ⟨f, 0, none⟩)
  | 1 => v = .agg #[.int .u64 p.seq, .int .u64 p.src, .int .u64 p.dst, .string p.data, .int .u64 p.timeout]
  | 2 => v = .int .u64 hh
  | 3 => v = .int .i64 c
  | 4 => v = .pointer (some ⟨g, 0, none⟩)
  | 5 => v = .agg #[.int .u64 p.seq, .int .u64 p.src, .int .u64 p.dst, .string p.data, .int .u64 p.timeout]
  | 6 => v = .int .u64 hh
  | 7 => v = .int .i64 c
  | 8 => v = .bool true
  | 9 => v = .bool true
  | _ => True
set_option maxRecDepth 100000 in
set_option maxHeartbeats 32000000 in
theorem play_three (w : World) (o : Bool) (V1 V2 : Value) (hh : Int) (g j : Nat) (B : FB) (ps : List Pk) (s : Fl) (m n : Nat) (what which later : Int) (dt : ByteArray) (ow : i64r what) (oh : i64r which) (ol : i64r later) (od : dt.size ≤ 140737488351232) (hpl : ps.length ≤ j) (hm : m ≤ j) (hn : n ≤ j) (hj3 : j < 50)
    (K9 : Act → World → Prop) (Q9 : Exit → Act → World → Prop) (hK9 : Hid (∀ a W, PEnd o w V1 V2 hh g j a W → K9 a W)) (a0 : Act) (W : World) (hM : PMid o w V1 V2 hh g j B ps s m n ⟨what, which, later, dt⟩ a0 W) (HT : Hid (pickI what 8 = 3)) : playMid.c.wp Tryd.prog (Exit.inBlock 1 (Exit.then K9 Q9)) a0 W := by
  unfold playMid
  dsimp only
  obtain ⟨hs, hd, e0, e1, e2, e3, e11, e13, e10, X, Y, p, e14, e15, hW, hX, hY, hp, z1, z2⟩ := hM
  obtain ⟨u, hu, ha⟩ := frame284 a0 hs hd
  rw [hu] at e0 e1 e2 e3 e11 e13 e10 e14 e15
  rw [hu] at hW
  rw [ha, e0, e1, e2, e3, e10, e11, e13, e14, e15]
  obtain ⟨V, hV⟩ : ∃ V, u 12 = V := ⟨_, rfl⟩
  rw [hV] at hW
  rw [hV]
  have HX := Lib.hid hX
  have HW := Lib.hid hW
  have HY := Lib.hid hY
  have HP := Lib.hid hp
  have x0 : W.cell? ⟨X, 0, none⟩ = some (.int .i64 what) := hX.cell 0
  clear hs hd hu ha e0 e1 e2 e3 e11 e13 e10 hW hX hY hp e14 e15 hV z1 z2
  clear a0
  have HPk8 := Lib.hid (pick_is what 8 W ow.1 ow.2 (by omega) (by omega))
  rw [HT.out] at HPk8
  go_wp2_with fail
  refine HPk8.out.mono ?_
  rintro e W1 ⟨rfl, rfl⟩
  clear x0 HPk8 HT
  go_upto_region 30 with fail
  obtain ⟨c, hcd⟩ : ∃ z, s.recvCode p hh = z := ⟨_, rfl⟩
  have HCd := Lib.hid hcd
  clear hcd
  have HS0 : Hid (pS2 w B g V ps s (s.recvd p hh) s (s.recvd p hh) m (m + 1) n (n + 1) X (acC what which later dt) Y p false false W.drew) := Lib.hid ⟨HW.out.below (Below.refl _ W).drew, HX.out.below (Below.refl _ W).drew, HY.out.below (Below.refl _ W).drew⟩
  refine wp_abs fun a0 hA => ?_
  have h3 : a0.eval (.tmp 3) = .int .u64 hh := by rw [hA]; rfl
  have h10 : a0.eval (.tmp 10) = .pointer (some ⟨B.f, 0, none⟩) := by rw [hA]; rfl
  have h11 : a0.eval (.tmp 11) = .pointer (some ⟨g, 0, none⟩) := by rw [hA]; rfl
  have h15 : a0.eval (.tmp 15) = .pointer (some ⟨Y, 0, none⟩) := by rw [hA]; rfl
  have hz : a0.tmps.size = 284 := by rw [hA]; rfl
  refine wp_region_K [some 154, some 155, some 156, some 157, some 158, some 159, some 160, some 161, some 162, some 16] 284 (GJ (plythree30V B.f g X Y hh dt p c) [3, 7] (fun l vs W => pS2 w B g V ps s (s.recvd p hh) s (s.recvd p hh) m (m + 1) n (n + 1) X (acC what which later dt) Y p (l.getD 0 false) (l.getD 1 false) W)) (by kernel_rfl) (by kernel_rfl) (by kernel_rfl) rfl (by kernel_rfl) hz (GJ.start HS0.out) ?_ ⟨?_, ?_, ?_, ?_, ?_, ?_, ?_, ?_, ?_, ?_, trivial⟩
  · intro d u W hd hJ
    have hS : pS2 w B g V ps s (s.recvd p hh) s (s.recvd p hh) m (m + 1) n (n + 1) X (acC what which later dt) Y p (d 3) (d 7) W := hJ.st
    rw [hd 3 (by decide), hd 7 (by decide)] at hS
    have e8 : u 9 = .bool true := hJ.vals 9 (hd 9 (by decide))
    have HW2 : Hid (PW w B g V ps (s.recvd p hh) (s.recvd p hh) (m + 1) (n + 1) W) := Lib.hid hS.1
    have HY2 := Lib.hid hS.2.2
    rw [hA]
    simp only [putAll, Act.put, List.setIfInBounds_toArray, List.set_cons_zero, List.set_cons_succ]
    clear hJ hd h3 h10 h11 h15 hz hA
    clear a0
    rw [e8]
    clear e8 hS HX HY HW
    generalize W = W2 at HW2 HY2 ⊢
    have hsq : u64r p.seq := HP.out.seq
    obtain ⟨sn, hsn⟩ : ∃ z, s.recvd p hh = z := ⟨_, rfl⟩
    rw [hsn] at HW2
    clear hsn
    obtain ⟨s1, hs1⟩ : ∃ z, (sn.sent p.seq).getD ByteArray.empty = z := ⟨_, rfl⟩
    obtain ⟨b1, hb1⟩ : ∃ z, (sn.sent p.seq).isSome = z := ⟨_, rfl⟩
    obtain ⟨s2, hs2⟩ : ∃ z, (sn.written p.seq).getD ByteArray.empty = z := ⟨_, rfl⟩
    obtain ⟨b2, hb2⟩ : ∃ z, (sn.written p.seq).isSome = z := ⟨_, rfl⟩
    obtain ⟨b3, hb3⟩ : ∃ z, sn.came p.seq = z := ⟨_, rfl⟩
    obtain ⟨n1, hn1⟩ : ∃ z, sn.send = z := ⟨_, rfl⟩
    obtain ⟨n2, hn2⟩ : ∃ z, sn.recv = z := ⟨_, rfl⟩
    obtain ⟨n3, hn3⟩ : ∃ z, sn.ack = z := ⟨_, rfl⟩
    have y0 : W2.cell? ⟨Y, 0, none⟩ = some (.int .u64 p.seq) := HY2.out.cell 0
    have hc := sent_is W2 B (m + 1) sn p.seq HW2.out.fa hsq
    rw [hs1, hb1] at hc
    go_wp2_with fail
    refine hc.mono ?_
    clear hc
    rintro e Wq ⟨rfl, rfl⟩
    clear y0
    have y0 : W2.cell? ⟨Y, 0, none⟩ = some (.int .u64 p.seq) := HY2.out.cell 0
    have hc := rsent_is W2 w.heap.size g (n + 1) sn p.seq HW2.out.rf (by omega)
    rw [hs1, hb1] at hc
    go_wp2_with fail
    refine hc.mono ?_
    clear hc
    rintro e Wq ⟨rfl, hb⟩
    have HWt1 := Lib.hid (HW2.out.below hb)
    have HYt1 := Lib.hid (HY2.out.below hb)
    clear hb y0 HW2 HY2
    generalize Wq = Wt1 at HWt1 HYt1 ⊢
    have y0 : Wt1.cell? ⟨Y, 0, none⟩ = some (.int .u64 p.seq) := HYt1.out.cell 0
    have hc := written_is Wt1 B (m + 1) sn p.seq HWt1.out.fa hsq
    rw [hs2, hb2] at hc
    go_wp2_with fail
    refine hc.mono ?_
    clear hc
    rintro e Wq ⟨rfl, rfl⟩
    clear y0
    have y0 : Wt1.cell? ⟨Y, 0, none⟩ = some (.int .u64 p.seq) := HYt1.out.cell 0
    have hc := rwritten_is Wt1 w.heap.size g (n + 1) sn p.seq HWt1.out.rf (by omega)
    rw [hs2, hb2] at hc
    go_wp2_with fail
    refine hc.mono ?_
    clear hc
    rintro e Wq ⟨rfl, hb⟩
    have HWt2 := Lib.hid (HWt1.out.below hb)
    have HYt2 := Lib.hid (HYt1.out.below hb)
    clear hb y0 HWt1 HYt1
    generalize Wq = Wt2 at HWt2 HYt2 ⊢
    have y0 : Wt2.cell? ⟨Y, 0, none⟩ = some (.int .u64 p.seq) := HYt2.out.cell 0
    have hc := next_same Wt2 B (m + 1) sn HWt2.out.fa
    rw [hn1, hn2, hn3] at hc
    go_wp2_with fail
    refine hc.mono ?_
    clear hc
    rintro e Wq ⟨rfl, hb⟩
    have HWt3 := Lib.hid (HWt2.out.below hb)
    have HYt3 := Lib.hid (HYt2.out.below hb)
    clear hb y0 HWt2 HYt2
    generalize Wq = Wt3 at HWt3 HYt3 ⊢
    have y0 : Wt3.cell? ⟨Y, 0, none⟩ = some (.int .u64 p.seq) := HYt3.out.cell 0
    have hc := rnext_is Wt3 w.heap.size g (n + 1) sn HWt3.out.rf
    rw [hn1, hn2, hn3] at hc
    go_wp2_with fail
    refine hc.mono ?_
    clear hc
    rintro e Wq ⟨rfl, hb⟩
    have HWt4 := Lib.hid (HWt3.out.below hb)
    have HYt4 := Lib.hid (HYt3.out.below hb)
    clear hb y0 HWt3 HYt3
    generalize Wq = Wt4 at HWt4 HYt4 ⊢
    have y0 : Wt4.cell? ⟨Y, 0, none⟩ = some (.int .u64 p.seq) := HYt4.out.cell 0
    have HC1 : Hid (∀ k, Calls Tryd.prog 22 #[.pointer (some ⟨B.f, 0, none⟩), .int .u64 p.seq] (Wt4.drewN k) fun e w' => e = .returned (.bool b3) ∧ w' = Wt4.drewN k) := Lib.hid (fun k => (came_is _ B (m + 1) sn p.seq ((HWt4.out.below (below_drewN' (Below.refl _ _) k)).fa) hsq).mono fun e w' ⟨h1, h2⟩ => ⟨by rw [h1, hb3], h2.symm⟩)
    have HC2 : Hid (∀ k, Calls Tryd.prog 46 #[.pointer (some ⟨g, 0, none⟩), .int .u64 p.seq] (Wt4.drewN k) fun e w' => e = .returned (.bool b3) ∧ w' = Wt4.drewN k) := Lib.hid (fun k => (rcame_is _ w.heap.size g (n + 1) sn p.seq ((HWt4.out.below (below_drewN' (Below.refl _ _) k)).rf) (by omega) hsq).mono fun e w' ⟨h1, h2⟩ => ⟨by rw [h1, hb3], h2.symm⟩)
    clear hs1 hb1 hs2 hb2 hb3 hn1 hn2 hn3
    go_wp2_with fail
    go_quiet ((first | (go_at_call 22; exact Calls.quiet_of_same (HC1.out _)) | (go_at_call 46; exact Calls.quiet_of_same (HC2.out _))))
    go_wp2_with fail
    exact hK9.out _ _ ⟨rfl, rfl, rfl, rfl, rfl, rfl, rfl, rfl, B, ps, sn, (m + 1), (n + 1), rfl, by omega, by omega, by omega, HWt4.out.below (below_drewN' (Below.refl _ _) nq)⟩
  · exact KStep.plain rfl fun ρ d u W he hc hdi hd hJ => swp_val (run_move (he.o h10 rfl)) (hJ.pure 0 rfl rfl)
  · exact KStep.plain rfl fun ρ d u W he hc hdi hd hJ => swp_val (run_load (he.o h15 rfl) (ld_pk (show pS2 w B g V ps s (s.recvd p hh) s (s.recvd p hh) m (m + 1) n (n + 1) X (acC what which later dt) Y p (d 3) (d 7) W from hJ.st).2.2)) (hJ.pure 1 rfl rfl)
  · exact KStep.plain rfl fun ρ d u W he hc hdi hd hJ => swp_val (run_move (he.o h3 rfl)) (hJ.pure 2 rfl rfl)
  · refine KStep.plain rfl fun ρ d u W he hc hdi hd hJ => ?_
    have hS : pS2 w B g V ps s (s.recvd p hh) s (s.recvd p hh) m (m + 1) n (n + 1) X (acC what which later dt) Y p (d 3) (d 7) W := hJ.st
    rw [hdi] at hS
    exact swp_call (run_call #[.pointer (some ⟨B.f, 0, none⟩), .agg #[.int .u64 p.seq, .int .u64 p.src, .int .u64 p.dst, .string p.data, .int .u64 p.timeout], .int .u64 hh] (he.func _) (by kernel_rfl) (map3 (he.i hz (hJ.vals 0 (hd 0 (by kernel_rfl))) (j := 0) (d := 154) rfl (by decide)) (he.i hz (hJ.vals 1 (hd 1 (by kernel_rfl))) (j := 1) (d := 155) rfl (by decide)) (he.i hz (hJ.vals 2 (hd 2 (by kernel_rfl))) (j := 2) (d := 156) rfl (by decide)))) (recv_is W B m s p hh hS.1.fa HP.out.seq (by unfold maxLen; omega)) (fun e W' h => ⟨_, by rw [h.1, HCd.out], hJ.go 3 rfl (show pS2 w B g V ps s (s.recvd p hh) s (s.recvd p hh) m (m + 1) n (n + 1) X (acC what which later dt) Y p (did d 3 3) (did d 3 7) W' from (by rw [did_at, did_ne d (by decide)]; exact pS2_A hS h.2.1 h.2.2))⟩)
  · exact KStep.plain rfl fun ρ d u W he hc hdi hd hJ => swp_val (run_move (he.o h11 rfl)) (hJ.pure 4 rfl rfl)
  · exact KStep.plain rfl fun ρ d u W he hc hdi hd hJ => swp_val (run_load (he.o h15 rfl) (ld_pk (show pS2 w B g V ps s (s.recvd p hh) s (s.recvd p hh) m (m + 1) n (n + 1) X (acC what which later dt) Y p (d 3) (d 7) W from hJ.st).2.2)) (hJ.pure 5 rfl rfl)
  · exact KStep.plain rfl fun ρ d u W he hc hdi hd hJ => swp_val (run_move (he.o h3 rfl)) (hJ.pure 6 rfl rfl)
  · refine KStep.plain rfl fun ρ d u W he hc hdi hd hJ => ?_
    have hS : pS2 w B g V ps s (s.recvd p hh) s (s.recvd p hh) m (m + 1) n (n + 1) X (acC what which later dt) Y p (d 3) (d 7) W := hJ.st
    rw [hdi] at hS
    exact swp_call (run_call #[.pointer (some ⟨g, 0, none⟩), .agg #[.int .u64 p.seq, .int .u64 p.src, .int .u64 p.dst, .string p.data, .int .u64 p.timeout], .int .u64 hh] (he.func _) (by kernel_rfl) (map3 (he.i hz (hJ.vals 4 (hd 4 (by kernel_rfl))) (j := 4) (d := 158) rfl (by decide)) (he.i hz (hJ.vals 5 (hd 5 (by kernel_rfl))) (j := 5) (d := 159) rfl (by decide)) (he.i hz (hJ.vals 6 (hd 6 (by kernel_rfl))) (j := 6) (d := 160) rfl (by decide)))) (rrecv_is W w.heap.size g n s p hh hS.1.rf (by omega)) (fun e W' h => ⟨_, by rw [h.1, HCd.out], hJ.go 7 rfl (show pS2 w B g V ps s (s.recvd p hh) s (s.recvd p hh) m (m + 1) n (n + 1) X (acC what which later dt) Y p (did d 7 3) (did d 7 7) W' from (by rw [did_at, did_ne d (by decide)]; exact pS2_B hS h.2))⟩)
  · exact KStep.plain rfl fun ρ d u W he hc hdi hd hJ => swp_val (run_bin (he.i hz (hJ.vals 3 (hd 3 (by kernel_rfl))) (j := 3) (d := 157) rfl (by decide)) (he.i hz (hJ.vals 7 (hd 7 (by kernel_rfl))) (j := 7) (d := 161) rfl (by decide)) rfl (by go_simp)) (hJ.pure 8 rfl rfl)
  · exact KStep.plain rfl fun ρ d u W he hc hdi hd hJ => swp_val (run_assign (he.i hz (hJ.vals 8 (hd 8 (by kernel_rfl))) (j := 8) (d := 162) rfl (by decide))) (hJ.pure 9 rfl rfl)
end Go.Proofs.YtpekbnkmnellpaaDoor
namespace Go.Proofs.YtpekbnkmnellpaaDoor
open Go.RowKit Go.Maps
set_option linter.unusedVariables false
def ply32V (f g X Y : Nat) (hh : Int) (dt : ByteArray) (p : Pk) (c : Int) (i : Nat) (v : Value) : Prop := match i with
  | 0 => v = .pointer (some ⟨f, 0, none⟩)
  | 1 => v = .pointer (some ⟨Y, 0, none⟩)
  | 2 => v = .int .u64 p.seq
  | 3 => v = .pointer (some ⟨X, 3, none⟩)
  | 4 => v = .string dt
  | 5 => v = .int .i64 c
  | 6 => v = .pointer (some ⟨g, 0, none⟩)
  | 7 => v = .pointer (some ⟨Y, 0, none⟩)
  | 8 => v = .int .u64 p.seq
  | 9 => v = .pointer (some ⟨X, 3, none⟩)
  | 10 => v = .string dt
  | 11 => v = .int .i64 c
  | 12 => v = .bool true
  | 13 => v = .bool true
  | _ => True
set_option maxRecDepth 100000 in
set_option maxHeartbeats 32000000 in
theorem play_four (w : World) (o : Bool) (V1 V2 : Value) (hh : Int) (g j : Nat) (B : FB) (ps : List Pk) (s : Fl) (m n : Nat) (what which later : Int) (dt : ByteArray) (ow : i64r what) (oh : i64r which) (ol : i64r later) (od : dt.size ≤ 140737488351232) (hpl : ps.length ≤ j) (hm : m ≤ j) (hn : n ≤ j) (hj3 : j < 50)
    (K9 : Act → World → Prop) (Q9 : Exit → Act → World → Prop) (hK9 : Hid (∀ a W, PEnd o w V1 V2 hh g j a W → K9 a W)) (a0 : Act) (W : World) (hM : PMid o w V1 V2 hh g j B ps s m n ⟨what, which, later, dt⟩ a0 W) (HT : Hid (pickI what 8 = 4)) : playMid.c.wp Tryd.prog (Exit.inBlock 1 (Exit.then K9 Q9)) a0 W := by
  unfold playMid
  dsimp only
  obtain ⟨hs, hd, e0, e1, e2, e3, e11, e13, e10, X, Y, p, e14, e15, hW, hX, hY, hp, z1, z2⟩ := hM
  obtain ⟨u, hu, ha⟩ := frame284 a0 hs hd
  rw [hu] at e0 e1 e2 e3 e11 e13 e10 e14 e15
  rw [hu] at hW
  rw [ha, e0, e1, e2, e3, e10, e11, e13, e14, e15]
  obtain ⟨V, hV⟩ : ∃ V, u 12 = V := ⟨_, rfl⟩
  rw [hV] at hW
  rw [hV]
  have HX := Lib.hid hX
  have HW := Lib.hid hW
  have HY := Lib.hid hY
  have HP := Lib.hid hp
  have x0 : W.cell? ⟨X, 0, none⟩ = some (.int .i64 what) := hX.cell 0
  clear hs hd hu ha e0 e1 e2 e3 e11 e13 e10 hW hX hY hp e14 e15 hV z1 z2
  clear a0
  have HPk8 := Lib.hid (pick_is what 8 W ow.1 ow.2 (by omega) (by omega))
  rw [HT.out] at HPk8
  go_wp2_with fail
  refine HPk8.out.mono ?_
  rintro e W1 ⟨rfl, rfl⟩
  clear x0 HPk8 HT
  go_upto_region 32 with fail
  obtain ⟨c, hcd⟩ : ∃ z, s.wCode p.seq = z := ⟨_, rfl⟩
  have HCd := Lib.hid hcd
  clear hcd
  have HS0 : Hid (pS2 w B g V ps s (s.writ p.seq dt) s (s.writ p.seq dt) m (m + 1) n (n + 1) X (acC what which later dt) Y p false false W.drew) := Lib.hid ⟨HW.out.below (Below.refl _ W).drew, HX.out.below (Below.refl _ W).drew, HY.out.below (Below.refl _ W).drew⟩
  refine wp_abs fun a0 hA => ?_
  have h10 : a0.eval (.tmp 10) = .pointer (some ⟨B.f, 0, none⟩) := by rw [hA]; rfl
  have h11 : a0.eval (.tmp 11) = .pointer (some ⟨g, 0, none⟩) := by rw [hA]; rfl
  have h14 : a0.eval (.tmp 14) = .pointer (some ⟨X, 0, none⟩) := by rw [hA]; rfl
  have h15 : a0.eval (.tmp 15) = .pointer (some ⟨Y, 0, none⟩) := by rw [hA]; rfl
  have hz : a0.tmps.size = 284 := by rw [hA]; rfl
  refine wp_region_K [some 165, some 166, some 167, some 168, some 169, some 170, some 171, some 172, some 173, some 174, some 175, some 176, some 177, some 16] 284 (GJ (ply32V B.f g X Y hh dt p c) [5, 11] (fun l vs W => pS2 w B g V ps s (s.writ p.seq dt) s (s.writ p.seq dt) m (m + 1) n (n + 1) X (acC what which later dt) Y p (l.getD 0 false) (l.getD 1 false) W)) (by kernel_rfl) (by kernel_rfl) (by kernel_rfl) rfl (by kernel_rfl) hz (GJ.start HS0.out) ?_ ⟨?_, ?_, ?_, ?_, ?_, ?_, ?_, ?_, ?_, ?_, ?_, ?_, ?_, ?_, trivial⟩
  · intro d u W hd hJ
    have hS : pS2 w B g V ps s (s.writ p.seq dt) s (s.writ p.seq dt) m (m + 1) n (n + 1) X (acC what which later dt) Y p (d 5) (d 11) W := hJ.st
    rw [hd 5 (by decide), hd 11 (by decide)] at hS
    have e8 : u 13 = .bool true := hJ.vals 13 (hd 13 (by decide))
    have HW2 : Hid (PW w B g V ps (s.writ p.seq dt) (s.writ p.seq dt) (m + 1) (n + 1) W) := Lib.hid hS.1
    have HY2 := Lib.hid hS.2.2
    rw [hA]
    simp only [putAll, Act.put, List.setIfInBounds_toArray, List.set_cons_zero, List.set_cons_succ]
    clear hJ hd h10 h11 h14 h15 hz hA
    clear a0
    rw [e8]
    clear e8 hS HX HY HW
    generalize W = W2 at HW2 HY2 ⊢
    have hsq : u64r p.seq := HP.out.seq
    obtain ⟨sn, hsn⟩ : ∃ z, s.writ p.seq dt = z := ⟨_, rfl⟩
    rw [hsn] at HW2
    clear hsn
    obtain ⟨s1, hs1⟩ : ∃ z, (sn.sent p.seq).getD ByteArray.empty = z := ⟨_, rfl⟩
    obtain ⟨b1, hb1⟩ : ∃ z, (sn.sent p.seq).isSome = z := ⟨_, rfl⟩
    obtain ⟨s2, hs2⟩ : ∃ z, (sn.written p.seq).getD ByteArray.empty = z := ⟨_, rfl⟩
    obtain ⟨b2, hb2⟩ : ∃ z, (sn.written p.seq).isSome = z := ⟨_, rfl⟩
    obtain ⟨b3, hb3⟩ : ∃ z, sn.came p.seq = z := ⟨_, rfl⟩
    obtain ⟨n1, hn1⟩ : ∃ z, sn.send = z := ⟨_, rfl⟩
    obtain ⟨n2, hn2⟩ : ∃ z, sn.recv = z := ⟨_, rfl⟩
    obtain ⟨n3, hn3⟩ : ∃ z, sn.ack = z := ⟨_, rfl⟩
    have y0 : W2.cell? ⟨Y, 0, none⟩ = some (.int .u64 p.seq) := HY2.out.cell 0
    have hc := sent_is W2 B (m + 1) sn p.seq HW2.out.fa hsq
    rw [hs1, hb1] at hc
    go_wp2_with fail
    refine hc.mono ?_
    clear hc
    rintro e Wq ⟨rfl, rfl⟩
    clear y0
    have y0 : W2.cell? ⟨Y, 0, none⟩ = some (.int .u64 p.seq) := HY2.out.cell 0
    have hc := rsent_is W2 w.heap.size g (n + 1) sn p.seq HW2.out.rf (by omega)
    rw [hs1, hb1] at hc
    go_wp2_with fail
    refine hc.mono ?_
    clear hc
    rintro e Wq ⟨rfl, hb⟩
    have HWt1 := Lib.hid (HW2.out.below hb)
    have HYt1 := Lib.hid (HY2.out.below hb)
    clear hb y0 HW2 HY2
    generalize Wq = Wt1 at HWt1 HYt1 ⊢
    have y0 : Wt1.cell? ⟨Y, 0, none⟩ = some (.int .u64 p.seq) := HYt1.out.cell 0
    have hc := written_is Wt1 B (m + 1) sn p.seq HWt1.out.fa hsq
    rw [hs2, hb2] at hc
    go_wp2_with fail
    refine hc.mono ?_
    clear hc
    rintro e Wq ⟨rfl, rfl⟩
    clear y0
    have y0 : Wt1.cell? ⟨Y, 0, none⟩ = some (.int .u64 p.seq) := HYt1.out.cell 0
    have hc := rwritten_is Wt1 w.heap.size g (n + 1) sn p.seq HWt1.out.rf (by omega)
    rw [hs2, hb2] at hc
    go_wp2_with fail
    refine hc.mono ?_
    clear hc
    rintro e Wq ⟨rfl, hb⟩
    have HWt2 := Lib.hid (HWt1.out.below hb)
    have HYt2 := Lib.hid (HYt1.out.below hb)
    clear hb y0 HWt1 HYt1
    generalize Wq = Wt2 at HWt2 HYt2 ⊢
    have y0 : Wt2.cell? ⟨Y, 0, none⟩ = some (.int .u64 p.seq) := HYt2.out.cell 0
    have hc := next_same Wt2 B (m + 1) sn HWt2.out.fa
    rw [hn1, hn2, hn3] at hc
    go_wp2_with fail
    refine hc.mono ?_
    clear hc
    rintro e Wq ⟨rfl, hb⟩
    have HWt3 := Lib.hid (HWt2.out.below hb)
    have HYt3 := Lib.hid (HYt2.out.below hb)
    clear hb y0 HWt2 HYt2
    generalize Wq = Wt3 at HWt3 HYt3 ⊢
    have y0 : Wt3.cell? ⟨Y, 0, none⟩ = some (.int .u64 p.seq) := HYt3.out.cell 0
    have hc := rnext_is Wt3 w.heap.size g (n + 1) sn HWt3.out.rf
    rw [hn1, hn2, hn3] at hc
    go_wp2_with fail
    refine hc.mono ?_
    clear hc
    rintro e Wq ⟨rfl, hb⟩
    have HWt4 := Lib.hid (HWt3.out.below hb)
    have HYt4 := Lib.hid (HYt3.out.below hb)
    clear hb y0 HWt3 HYt3
    generalize Wq = Wt4 at HWt4 HYt4 ⊢
    have y0 : Wt4.cell? ⟨Y, 0, none⟩ = some (.int .u64 p.seq) := HYt4.out.cell 0
    have HC1 : Hid (∀ k, Calls Tryd.prog 22 #[.pointer (some ⟨B.f, 0, none⟩), .int .u64 p.seq] (Wt4.drewN k) fun e w' => e = .returned (.bool b3) ∧ w' = Wt4.drewN k) := Lib.hid (fun k => (came_is _ B (m + 1) sn p.seq ((HWt4.out.below (below_drewN' (Below.refl _ _) k)).fa) hsq).mono fun e w' ⟨h1, h2⟩ => ⟨by rw [h1, hb3], h2.symm⟩)
    have HC2 : Hid (∀ k, Calls Tryd.prog 46 #[.pointer (some ⟨g, 0, none⟩), .int .u64 p.seq] (Wt4.drewN k) fun e w' => e = .returned (.bool b3) ∧ w' = Wt4.drewN k) := Lib.hid (fun k => (rcame_is _ w.heap.size g (n + 1) sn p.seq ((HWt4.out.below (below_drewN' (Below.refl _ _) k)).rf) (by omega) hsq).mono fun e w' ⟨h1, h2⟩ => ⟨by rw [h1, hb3], h2.symm⟩)
    clear hs1 hb1 hs2 hb2 hb3 hn1 hn2 hn3
    go_wp2_with fail
    go_quiet ((first | (go_at_call 22; exact Calls.quiet_of_same (HC1.out _)) | (go_at_call 46; exact Calls.quiet_of_same (HC2.out _))))
    go_wp2_with fail
    exact hK9.out _ _ ⟨rfl, rfl, rfl, rfl, rfl, rfl, rfl, rfl, B, ps, sn, (m + 1), (n + 1), rfl, by omega, by omega, by omega, HWt4.out.below (below_drewN' (Below.refl _ _) nq)⟩
  · exact KStep.plain rfl fun ρ d u W he hc hdi hd hJ => swp_val (run_move (he.o h10 rfl)) (hJ.pure 0 rfl rfl)
  · exact KStep.plain rfl fun ρ d u W he hc hdi hd hJ => swp_val (run_fieldAddr (he.o h15 rfl) (by go_simp)) (hJ.pure 1 rfl rfl)
  · exact KStep.plain rfl fun ρ d u W he hc hdi hd hJ => swp_val (run_load (he.i hz (hJ.vals 1 (hd 1 (by kernel_rfl))) (j := 1) (d := 166) rfl (by decide)) (ld_u ((show pS2 w B g V ps s (s.writ p.seq dt) s (s.writ p.seq dt) m (m + 1) n (n + 1) X (acC what which later dt) Y p (d 5) (d 11) W from hJ.st).2.2.cell 0))) (hJ.pure 2 rfl rfl)
  · exact KStep.plain rfl fun ρ d u W he hc hdi hd hJ => swp_val (run_fieldAddr (he.o h14 rfl) (by go_simp)) (hJ.pure 3 rfl rfl)
  · exact KStep.plain rfl fun ρ d u W he hc hdi hd hJ => swp_val (run_load (he.i hz (hJ.vals 3 (hd 3 (by kernel_rfl))) (j := 3) (d := 168) rfl (by decide)) (ld_s ((show pS2 w B g V ps s (s.writ p.seq dt) s (s.writ p.seq dt) m (m + 1) n (n + 1) X (acC what which later dt) Y p (d 5) (d 11) W from hJ.st).2.1.cell 3))) (hJ.pure 4 rfl rfl)
  · refine KStep.plain rfl fun ρ d u W he hc hdi hd hJ => ?_
    have hS : pS2 w B g V ps s (s.writ p.seq dt) s (s.writ p.seq dt) m (m + 1) n (n + 1) X (acC what which later dt) Y p (d 5) (d 11) W := hJ.st
    rw [hdi] at hS
    exact swp_call (run_call #[.pointer (some ⟨B.f, 0, none⟩), .int .u64 p.seq, .string dt] (he.func _) (by kernel_rfl) (map3 (he.i hz (hJ.vals 0 (hd 0 (by kernel_rfl))) (j := 0) (d := 165) rfl (by decide)) (he.i hz (hJ.vals 2 (hd 2 (by kernel_rfl))) (j := 2) (d := 167) rfl (by decide)) (he.i hz (hJ.vals 4 (hd 4 (by kernel_rfl))) (j := 4) (d := 169) rfl (by decide)))) (fwrite_is W hS.1.glob.g B m s p.seq dt hS.1.fa HP.out.seq od (by unfold maxLen; omega)) (fun e W' h => ⟨_, by rw [h.1, HCd.out], hJ.go 5 rfl (show pS2 w B g V ps s (s.writ p.seq dt) s (s.writ p.seq dt) m (m + 1) n (n + 1) X (acC what which later dt) Y p (did d 5 5) (did d 5 11) W' from (by rw [did_at, did_ne d (by decide)]; exact pS2_A hS h.2.1 h.2.2))⟩)
  · exact KStep.plain rfl fun ρ d u W he hc hdi hd hJ => swp_val (run_move (he.o h11 rfl)) (hJ.pure 6 rfl rfl)
  · exact KStep.plain rfl fun ρ d u W he hc hdi hd hJ => swp_val (run_fieldAddr (he.o h15 rfl) (by go_simp)) (hJ.pure 7 rfl rfl)
  · exact KStep.plain rfl fun ρ d u W he hc hdi hd hJ => swp_val (run_load (he.i hz (hJ.vals 7 (hd 7 (by kernel_rfl))) (j := 7) (d := 172) rfl (by decide)) (ld_u ((show pS2 w B g V ps s (s.writ p.seq dt) s (s.writ p.seq dt) m (m + 1) n (n + 1) X (acC what which later dt) Y p (d 5) (d 11) W from hJ.st).2.2.cell 0))) (hJ.pure 8 rfl rfl)
  · exact KStep.plain rfl fun ρ d u W he hc hdi hd hJ => swp_val (run_fieldAddr (he.o h14 rfl) (by go_simp)) (hJ.pure 9 rfl rfl)
  · exact KStep.plain rfl fun ρ d u W he hc hdi hd hJ => swp_val (run_load (he.i hz (hJ.vals 9 (hd 9 (by kernel_rfl))) (j := 9) (d := 174) rfl (by decide)) (ld_s ((show pS2 w B g V ps s (s.writ p.seq dt) s (s.writ p.seq dt) m (m + 1) n (n + 1) X (acC what which later dt) Y p (d 5) (d 11) W from hJ.st).2.1.cell 3))) (hJ.pure 10 rfl rfl)
  · refine KStep.plain rfl fun ρ d u W he hc hdi hd hJ => ?_
    have hS : pS2 w B g V ps s (s.writ p.seq dt) s (s.writ p.seq dt) m (m + 1) n (n + 1) X (acC what which later dt) Y p (d 5) (d 11) W := hJ.st
    rw [hdi] at hS
    exact swp_call (run_call #[.pointer (some ⟨g, 0, none⟩), .int .u64 p.seq, .string dt] (he.func _) (by kernel_rfl) (map3 (he.i hz (hJ.vals 6 (hd 6 (by kernel_rfl))) (j := 6) (d := 171) rfl (by decide)) (he.i hz (hJ.vals 8 (hd 8 (by kernel_rfl))) (j := 8) (d := 173) rfl (by decide)) (he.i hz (hJ.vals 10 (hd 10 (by kernel_rfl))) (j := 10) (d := 175) rfl (by decide)))) (rwritef_is W hS.1.glob w.heap.size g n s p.seq dt hS.1.rf (by omega) HP.out.seq od) (fun e W' h => ⟨_, by rw [h.1, HCd.out], hJ.go 11 rfl (show pS2 w B g V ps s (s.writ p.seq dt) s (s.writ p.seq dt) m (m + 1) n (n + 1) X (acC what which later dt) Y p (did d 11 5) (did d 11 11) W' from (by rw [did_at, did_ne d (by decide)]; exact pS2_B hS h.2))⟩)
  · exact KStep.plain rfl fun ρ d u W he hc hdi hd hJ => swp_val (run_bin (he.i hz (hJ.vals 5 (hd 5 (by kernel_rfl))) (j := 5) (d := 170) rfl (by decide)) (he.i hz (hJ.vals 11 (hd 11 (by kernel_rfl))) (j := 11) (d := 176) rfl (by decide)) rfl (by go_simp)) (hJ.pure 12 rfl rfl)
  · exact KStep.plain rfl fun ρ d u W he hc hdi hd hJ => swp_val (run_assign (he.i hz (hJ.vals 12 (hd 12 (by kernel_rfl))) (j := 12) (d := 177) rfl (by decide))) (hJ.pure 13 rfl rfl)
end Go.Proofs.YtpekbnkmnellpaaDoor
namespace Go.Proofs.YtpekbnkmnellpaaDoor
open Go.RowKit Go.Maps
set_option linter.unusedVariables false
def ply34V (f g X Y : Nat) (hh : Int) (dt : ByteArray) (p : Pk) (c : Int) (i : Nat) (v : Value) : Prop := match i with
  | 0 => v = .pointer (some ⟨f, 0, none⟩)
  | 1 => v = .agg #[.int .u64 p.seq, .int .u64 p.src, .int .u64 p.dst, .string p.data, .int .u64 p.timeout]
  | 2 => v = .int .i64 c
  | 3 => v = .pointer (some ⟨g, 0, none⟩)
  | 4 => v = .agg #[.int .u64 p.seq, .int .u64 p.src, .int .u64 p.dst, .string p.data, .int .u64 p.timeout]
  | 5 => v = .int .i64 c
  | 6 => v = .bool true
  | 7 => v = .bool true
  | _ => True
set_option maxRecDepth 100000 in
set_option maxHeartbeats 32000000 in
theorem play_five (w : World) (o : Bool) (V1 V2 : Value) (hh : Int) (g j : Nat) (B : FB) (ps : List Pk) (s : Fl) (m n : Nat) (what which later : Int) (dt : ByteArray) (ow : i64r what) (oh : i64r which) (ol : i64r later) (od : dt.size ≤ 140737488351232) (hpl : ps.length ≤ j) (hm : m ≤ j) (hn : n ≤ j) (hj3 : j < 50)
    (K9 : Act → World → Prop) (Q9 : Exit → Act → World → Prop) (hK9 : Hid (∀ a W, PEnd o w V1 V2 hh g j a W → K9 a W)) (a0 : Act) (W : World) (hM : PMid o w V1 V2 hh g j B ps s m n ⟨what, which, later, dt⟩ a0 W) (HT : Hid (pickI what 8 = 5)) : playMid.c.wp Tryd.prog (Exit.inBlock 1 (Exit.then K9 Q9)) a0 W := by
  unfold playMid
  dsimp only
  obtain ⟨hs, hd, e0, e1, e2, e3, e11, e13, e10, X, Y, p, e14, e15, hW, hX, hY, hp, z1, z2⟩ := hM
  obtain ⟨u, hu, ha⟩ := frame284 a0 hs hd
  rw [hu] at e0 e1 e2 e3 e11 e13 e10 e14 e15
  rw [hu] at hW
  rw [ha, e0, e1, e2, e3, e10, e11, e13, e14, e15]
  obtain ⟨V, hV⟩ : ∃ V, u 12 = V := ⟨_, rfl⟩
  rw [hV] at hW
  rw [hV]
  have HX := Lib.hid hX
  have HW := Lib.hid hW
  have HY := Lib.hid hY
  have HP := Lib.hid hp
  have x0 : W.cell? ⟨X, 0, none⟩ = some (.int .i64 what) := hX.cell 0
  clear hs hd hu ha e0 e1 e2 e3 e11 e13 e10 hW hX hY hp e14 e15 hV z1 z2
  clear a0
  have HPk8 := Lib.hid (pick_is what 8 W ow.1 ow.2 (by omega) (by omega))
  rw [HT.out] at HPk8
  go_wp2_with fail
  refine HPk8.out.mono ?_
  rintro e W1 ⟨rfl, rfl⟩
  clear x0 HPk8 HT
  go_upto_region 34 with fail
  obtain ⟨c, hcd⟩ : ∃ z, s.ackCode p = z := ⟨_, rfl⟩
  have HCd := Lib.hid hcd
  clear hcd
  have HS0 : Hid (pS2 w B g V ps s (s.acks p) s (s.acks p) m m n n X (acC what which later dt) Y p false false W.drew) := Lib.hid ⟨HW.out.below (Below.refl _ W).drew, HX.out.below (Below.refl _ W).drew, HY.out.below (Below.refl _ W).drew⟩
  refine wp_abs fun a0 hA => ?_
  have h10 : a0.eval (.tmp 10) = .pointer (some ⟨B.f, 0, none⟩) := by rw [hA]; rfl
  have h11 : a0.eval (.tmp 11) = .pointer (some ⟨g, 0, none⟩) := by rw [hA]; rfl
  have h15 : a0.eval (.tmp 15) = .pointer (some ⟨Y, 0, none⟩) := by rw [hA]; rfl
  have hz : a0.tmps.size = 284 := by rw [hA]; rfl
  refine wp_region_K [some 180, some 181, some 182, some 183, some 184, some 185, some 186, some 16] 284 (GJ (ply34V B.f g X Y hh dt p c) [2, 5] (fun l vs W => pS2 w B g V ps s (s.acks p) s (s.acks p) m m n n X (acC what which later dt) Y p (l.getD 0 false) (l.getD 1 false) W)) (by kernel_rfl) (by kernel_rfl) (by kernel_rfl) rfl (by kernel_rfl) hz (GJ.start HS0.out) ?_ ⟨?_, ?_, ?_, ?_, ?_, ?_, ?_, ?_, trivial⟩
  · intro d u W hd hJ
    have hS : pS2 w B g V ps s (s.acks p) s (s.acks p) m m n n X (acC what which later dt) Y p (d 2) (d 5) W := hJ.st
    rw [hd 2 (by decide), hd 5 (by decide)] at hS
    have e8 : u 7 = .bool true := hJ.vals 7 (hd 7 (by decide))
    have HW2 : Hid (PW w B g V ps (s.acks p) (s.acks p) m n W) := Lib.hid hS.1
    have HY2 := Lib.hid hS.2.2
    rw [hA]
    simp only [putAll, Act.put, List.setIfInBounds_toArray, List.set_cons_zero, List.set_cons_succ]
    clear hJ hd h10 h11 h15 hz hA
    clear a0
    rw [e8]
    clear e8 hS HX HY HW
    generalize W = W2 at HW2 HY2 ⊢
    have hsq : u64r p.seq := HP.out.seq
    obtain ⟨sn, hsn⟩ : ∃ z, s.acks p = z := ⟨_, rfl⟩
    rw [hsn] at HW2
    clear hsn
    obtain ⟨s1, hs1⟩ : ∃ z, (sn.sent p.seq).getD ByteArray.empty = z := ⟨_, rfl⟩
    obtain ⟨b1, hb1⟩ : ∃ z, (sn.sent p.seq).isSome = z := ⟨_, rfl⟩
    obtain ⟨s2, hs2⟩ : ∃ z, (sn.written p.seq).getD ByteArray.empty = z := ⟨_, rfl⟩
    obtain ⟨b2, hb2⟩ : ∃ z, (sn.written p.seq).isSome = z := ⟨_, rfl⟩
    obtain ⟨b3, hb3⟩ : ∃ z, sn.came p.seq = z := ⟨_, rfl⟩
    obtain ⟨n1, hn1⟩ : ∃ z, sn.send = z := ⟨_, rfl⟩
    obtain ⟨n2, hn2⟩ : ∃ z, sn.recv = z := ⟨_, rfl⟩
    obtain ⟨n3, hn3⟩ : ∃ z, sn.ack = z := ⟨_, rfl⟩
    have y0 : W2.cell? ⟨Y, 0, none⟩ = some (.int .u64 p.seq) := HY2.out.cell 0
    have hc := sent_is W2 B m sn p.seq HW2.out.fa hsq
    rw [hs1, hb1] at hc
    go_wp2_with fail
    refine hc.mono ?_
    clear hc
    rintro e Wq ⟨rfl, rfl⟩
    clear y0
    have y0 : W2.cell? ⟨Y, 0, none⟩ = some (.int .u64 p.seq) := HY2.out.cell 0
    have hc := rsent_is W2 w.heap.size g n sn p.seq HW2.out.rf (by omega)
    rw [hs1, hb1] at hc
    go_wp2_with fail
    refine hc.mono ?_
    clear hc
    rintro e Wq ⟨rfl, hb⟩
    have HWt1 := Lib.hid (HW2.out.below hb)
    have HYt1 := Lib.hid (HY2.out.below hb)
    clear hb y0 HW2 HY2
    generalize Wq = Wt1 at HWt1 HYt1 ⊢
    have y0 : Wt1.cell? ⟨Y, 0, none⟩ = some (.int .u64 p.seq) := HYt1.out.cell 0
    have hc := written_is Wt1 B m sn p.seq HWt1.out.fa hsq
    rw [hs2, hb2] at hc
    go_wp2_with fail
    refine hc.mono ?_
    clear hc
    rintro e Wq ⟨rfl, rfl⟩
    clear y0
    have y0 : Wt1.cell? ⟨Y, 0, none⟩ = some (.int .u64 p.seq) := HYt1.out.cell 0
    have hc := rwritten_is Wt1 w.heap.size g n sn p.seq HWt1.out.rf (by omega)
    rw [hs2, hb2] at hc
    go_wp2_with fail
    refine hc.mono ?_
    clear hc
    rintro e Wq ⟨rfl, hb⟩
    have HWt2 := Lib.hid (HWt1.out.below hb)
    have HYt2 := Lib.hid (HYt1.out.below hb)
    clear hb y0 HWt1 HYt1
    generalize Wq = Wt2 at HWt2 HYt2 ⊢
    have y0 : Wt2.cell? ⟨Y, 0, none⟩ = some (.int .u64 p.seq) := HYt2.out.cell 0
    have hc := next_same Wt2 B m sn HWt2.out.fa
    rw [hn1, hn2, hn3] at hc
    go_wp2_with fail
    refine hc.mono ?_
    clear hc
    rintro e Wq ⟨rfl, hb⟩
    have HWt3 := Lib.hid (HWt2.out.below hb)
    have HYt3 := Lib.hid (HYt2.out.below hb)
    clear hb y0 HWt2 HYt2
    generalize Wq = Wt3 at HWt3 HYt3 ⊢
    have y0 : Wt3.cell? ⟨Y, 0, none⟩ = some (.int .u64 p.seq) := HYt3.out.cell 0
    have hc := rnext_is Wt3 w.heap.size g n sn HWt3.out.rf
    rw [hn1, hn2, hn3] at hc
    go_wp2_with fail
    refine hc.mono ?_
    clear hc
    rintro e Wq ⟨rfl, hb⟩
    have HWt4 := Lib.hid (HWt3.out.below hb)
    have HYt4 := Lib.hid (HYt3.out.below hb)
    clear hb y0 HWt3 HYt3
    generalize Wq = Wt4 at HWt4 HYt4 ⊢
    have y0 : Wt4.cell? ⟨Y, 0, none⟩ = some (.int .u64 p.seq) := HYt4.out.cell 0
    have HC1 : Hid (∀ k, Calls Tryd.prog 22 #[.pointer (some ⟨B.f, 0, none⟩), .int .u64 p.seq] (Wt4.drewN k) fun e w' => e = .returned (.bool b3) ∧ w' = Wt4.drewN k) := Lib.hid (fun k => (came_is _ B m sn p.seq ((HWt4.out.below (below_drewN' (Below.refl _ _) k)).fa) hsq).mono fun e w' ⟨h1, h2⟩ => ⟨by rw [h1, hb3], h2.symm⟩)
    have HC2 : Hid (∀ k, Calls Tryd.prog 46 #[.pointer (some ⟨g, 0, none⟩), .int .u64 p.seq] (Wt4.drewN k) fun e w' => e = .returned (.bool b3) ∧ w' = Wt4.drewN k) := Lib.hid (fun k => (rcame_is _ w.heap.size g n sn p.seq ((HWt4.out.below (below_drewN' (Below.refl _ _) k)).rf) (by omega) hsq).mono fun e w' ⟨h1, h2⟩ => ⟨by rw [h1, hb3], h2.symm⟩)
    clear hs1 hb1 hs2 hb2 hb3 hn1 hn2 hn3
    go_wp2_with fail
    go_quiet ((first | (go_at_call 22; exact Calls.quiet_of_same (HC1.out _)) | (go_at_call 46; exact Calls.quiet_of_same (HC2.out _))))
    go_wp2_with fail
    exact hK9.out _ _ ⟨rfl, rfl, rfl, rfl, rfl, rfl, rfl, rfl, B, ps, sn, m, n, rfl, by omega, by omega, by omega, HWt4.out.below (below_drewN' (Below.refl _ _) nq)⟩
  · exact KStep.plain rfl fun ρ d u W he hc hdi hd hJ => swp_val (run_move (he.o h10 rfl)) (hJ.pure 0 rfl rfl)
  · exact KStep.plain rfl fun ρ d u W he hc hdi hd hJ => swp_val (run_load (he.o h15 rfl) (ld_pk (show pS2 w B g V ps s (s.acks p) s (s.acks p) m m n n X (acC what which later dt) Y p (d 2) (d 5) W from hJ.st).2.2)) (hJ.pure 1 rfl rfl)
  · refine KStep.plain rfl fun ρ d u W he hc hdi hd hJ => ?_
    have hS : pS2 w B g V ps s (s.acks p) s (s.acks p) m m n n X (acC what which later dt) Y p (d 2) (d 5) W := hJ.st
    rw [hdi] at hS
    exact swp_call (run_call #[.pointer (some ⟨B.f, 0, none⟩), .agg #[.int .u64 p.seq, .int .u64 p.src, .int .u64 p.dst, .string p.data, .int .u64 p.timeout]] (he.func _) (by kernel_rfl) (map2 (he.i hz (hJ.vals 0 (hd 0 (by kernel_rfl))) (j := 0) (d := 180) rfl (by decide)) (he.i hz (hJ.vals 1 (hd 1 (by kernel_rfl))) (j := 1) (d := 181) rfl (by decide)))) (ack_is W hS.1.glob.g B m s p hS.1.fa HP.out) (fun e W' h => ⟨_, by rw [h.1, HCd.out], hJ.go 2 rfl (show pS2 w B g V ps s (s.acks p) s (s.acks p) m m n n X (acC what which later dt) Y p (did d 2 2) (did d 2 5) W' from (by rw [did_at, did_ne d (by decide)]; exact pS2_A hS h.2.1 h.2.2))⟩)
  · exact KStep.plain rfl fun ρ d u W he hc hdi hd hJ => swp_val (run_move (he.o h11 rfl)) (hJ.pure 3 rfl rfl)
  · exact KStep.plain rfl fun ρ d u W he hc hdi hd hJ => swp_val (run_load (he.o h15 rfl) (ld_pk (show pS2 w B g V ps s (s.acks p) s (s.acks p) m m n n X (acC what which later dt) Y p (d 2) (d 5) W from hJ.st).2.2)) (hJ.pure 4 rfl rfl)
  · refine KStep.plain rfl fun ρ d u W he hc hdi hd hJ => ?_
    have hS : pS2 w B g V ps s (s.acks p) s (s.acks p) m m n n X (acC what which later dt) Y p (d 2) (d 5) W := hJ.st
    rw [hdi] at hS
    exact swp_call (run_call #[.pointer (some ⟨g, 0, none⟩), .agg #[.int .u64 p.seq, .int .u64 p.src, .int .u64 p.dst, .string p.data, .int .u64 p.timeout]] (he.func _) (by kernel_rfl) (map2 (he.i hz (hJ.vals 3 (hd 3 (by kernel_rfl))) (j := 3) (d := 183) rfl (by decide)) (he.i hz (hJ.vals 4 (hd 4 (by kernel_rfl))) (j := 4) (d := 184) rfl (by decide)))) (rackf_is W hS.1.glob w.heap.size g n s p hS.1.rf (by omega) HP.out) (fun e W' h => ⟨_, by rw [h.1, HCd.out], hJ.go 5 rfl (show pS2 w B g V ps s (s.acks p) s (s.acks p) m m n n X (acC what which later dt) Y p (did d 5 2) (did d 5 5) W' from (by rw [did_at, did_ne d (by decide)]; exact pS2_B hS h.2))⟩)
  · exact KStep.plain rfl fun ρ d u W he hc hdi hd hJ => swp_val (run_bin (he.i hz (hJ.vals 2 (hd 2 (by kernel_rfl))) (j := 2) (d := 182) rfl (by decide)) (he.i hz (hJ.vals 5 (hd 5 (by kernel_rfl))) (j := 5) (d := 185) rfl (by decide)) rfl (by go_simp)) (hJ.pure 6 rfl rfl)
  · exact KStep.plain rfl fun ρ d u W he hc hdi hd hJ => swp_val (run_assign (he.i hz (hJ.vals 6 (hd 6 (by kernel_rfl))) (j := 6) (d := 186) rfl (by decide))) (hJ.pure 7 rfl rfl)
end Go.Proofs.YtpekbnkmnellpaaDoor
namespace Go.Proofs.YtpekbnkmnellpaaDoor
open Go.RowKit Go.Maps
set_option linter.unusedVariables false
def ply36V (f g X Y : Nat) (hh : Int) (dt : ByteArray) (p : Pk) (c : Int) (i : Nat) (v : Value) : Prop := match i with
  | 0 => v = .pointer (some ⟨f, 0, none⟩)
  | 1 => v = .agg #[.int .u64 p.seq, .int .u64 p.src, .int .u64 p.dst, .string p.data, .int .u64 p.timeout]
  | 2 => v = .int .i64 c
  | 3 => v = .pointer (some ⟨g, 0, none⟩)
  | 4 => v = .agg #[.int .u64 p.seq, .int .u64 p.src, .int .u64 p.dst, .string p.data, .int .u64 p.timeout]
  | 5 => v = .int .i64 c
  | 6 => v = .bool true
  | 7 => v = .bool true
  | _ => True
set_option maxRecDepth 100000 in
set_option maxHeartbeats 32000000 in
theorem play_six (w : World) (o : Bool) (V1 V2 : Value) (hh : Int) (g j : Nat) (B : FB) (ps : List Pk) (s : Fl) (m n : Nat) (what which later : Int) (dt : ByteArray) (ow : i64r what) (oh : i64r which) (ol : i64r later) (od : dt.size ≤ 140737488351232) (hpl : ps.length ≤ j) (hm : m ≤ j) (hn : n ≤ j) (hj3 : j < 50)
    (K9 : Act → World → Prop) (Q9 : Exit → Act → World → Prop) (hK9 : Hid (∀ a W, PEnd o w V1 V2 hh g j a W → K9 a W)) (a0 : Act) (W : World) (hM : PMid o w V1 V2 hh g j B ps s m n ⟨what, which, later, dt⟩ a0 W) (HT : Hid (pickI what 8 = 6)) : playMid.c.wp Tryd.prog (Exit.inBlock 1 (Exit.then K9 Q9)) a0 W := by
  unfold playMid
  dsimp only
  obtain ⟨hs, hd, e0, e1, e2, e3, e11, e13, e10, X, Y, p, e14, e15, hW, hX, hY, hp, z1, z2⟩ := hM
  obtain ⟨u, hu, ha⟩ := frame284 a0 hs hd
  rw [hu] at e0 e1 e2 e3 e11 e13 e10 e14 e15
  rw [hu] at hW
  rw [ha, e0, e1, e2, e3, e10, e11, e13, e14, e15]
  obtain ⟨V, hV⟩ : ∃ V, u 12 = V := ⟨_, rfl⟩
  rw [hV] at hW
  rw [hV]
  have HX := Lib.hid hX
  have HW := Lib.hid hW
  have HY := Lib.hid hY
  have HP := Lib.hid hp
  have x0 : W.cell? ⟨X, 0, none⟩ = some (.int .i64 what) := hX.cell 0
  clear hs hd hu ha e0 e1 e2 e3 e11 e13 e10 hW hX hY hp e14 e15 hV z1 z2
  clear a0
  have HPk8 := Lib.hid (pick_is what 8 W ow.1 ow.2 (by omega) (by omega))
  rw [HT.out] at HPk8
  go_wp2_with fail
  refine HPk8.out.mono ?_
  rintro e W1 ⟨rfl, rfl⟩
  clear x0 HPk8 HT
  go_upto_region 36 with fail
  obtain ⟨c, hcd⟩ : ∃ z, s.toCode p = z := ⟨_, rfl⟩
  have HCd := Lib.hid hcd
  clear hcd
  have HS0 : Hid (pS2 w B g V ps s (s.timed p) s (s.timed p) m m n n X (acC what which later dt) Y p false false W.drew) := Lib.hid ⟨HW.out.below (Below.refl _ W).drew, HX.out.below (Below.refl _ W).drew, HY.out.below (Below.refl _ W).drew⟩
  refine wp_abs fun a0 hA => ?_
  have h10 : a0.eval (.tmp 10) = .pointer (some ⟨B.f, 0, none⟩) := by rw [hA]; rfl
  have h11 : a0.eval (.tmp 11) = .pointer (some ⟨g, 0, none⟩) := by rw [hA]; rfl
  have h15 : a0.eval (.tmp 15) = .pointer (some ⟨Y, 0, none⟩) := by rw [hA]; rfl
  have hz : a0.tmps.size = 284 := by rw [hA]; rfl
  refine wp_region_K [some 189, some 190, some 191, some 192, some 193, some 194, some 195, some 16] 284 (GJ (ply36V B.f g X Y hh dt p c) [2, 5] (fun l vs W => pS2 w B g V ps s (s.timed p) s (s.timed p) m m n n X (acC what which later dt) Y p (l.getD 0 false) (l.getD 1 false) W)) (by kernel_rfl) (by kernel_rfl) (by kernel_rfl) rfl (by kernel_rfl) hz (GJ.start HS0.out) ?_ ⟨?_, ?_, ?_, ?_, ?_, ?_, ?_, ?_, trivial⟩
  · intro d u W hd hJ
    have hS : pS2 w B g V ps s (s.timed p) s (s.timed p) m m n n X (acC what which later dt) Y p (d 2) (d 5) W := hJ.st
    rw [hd 2 (by decide), hd 5 (by decide)] at hS
    have e8 : u 7 = .bool true := hJ.vals 7 (hd 7 (by decide))
    have HW2 : Hid (PW w B g V ps (s.timed p) (s.timed p) m n W) := Lib.hid hS.1
    have HY2 := Lib.hid hS.2.2
    rw [hA]
    simp only [putAll, Act.put, List.setIfInBounds_toArray, List.set_cons_zero, List.set_cons_succ]
    clear hJ hd h10 h11 h15 hz hA
    clear a0
    rw [e8]
    clear e8 hS HX HY HW
    generalize W = W2 at HW2 HY2 ⊢
    have hsq : u64r p.seq := HP.out.seq
    obtain ⟨sn, hsn⟩ : ∃ z, s.timed p = z := ⟨_, rfl⟩
    rw [hsn] at HW2
    clear hsn
    obtain ⟨s1, hs1⟩ : ∃ z, (sn.sent p.seq).getD ByteArray.empty = z := ⟨_, rfl⟩
    obtain ⟨b1, hb1⟩ : ∃ z, (sn.sent p.seq).isSome = z := ⟨_, rfl⟩
    obtain ⟨s2, hs2⟩ : ∃ z, (sn.written p.seq).getD ByteArray.empty = z := ⟨_, rfl⟩
    obtain ⟨b2, hb2⟩ : ∃ z, (sn.written p.seq).isSome = z := ⟨_, rfl⟩
    obtain ⟨b3, hb3⟩ : ∃ z, sn.came p.seq = z := ⟨_, rfl⟩
    obtain ⟨n1, hn1⟩ : ∃ z, sn.send = z := ⟨_, rfl⟩
    obtain ⟨n2, hn2⟩ : ∃ z, sn.recv = z := ⟨_, rfl⟩
    obtain ⟨n3, hn3⟩ : ∃ z, sn.ack = z := ⟨_, rfl⟩
    have y0 : W2.cell? ⟨Y, 0, none⟩ = some (.int .u64 p.seq) := HY2.out.cell 0
    have hc := sent_is W2 B m sn p.seq HW2.out.fa hsq
    rw [hs1, hb1] at hc
    go_wp2_with fail
    refine hc.mono ?_
    clear hc
    rintro e Wq ⟨rfl, rfl⟩
    clear y0
    have y0 : W2.cell? ⟨Y, 0, none⟩ = some (.int .u64 p.seq) := HY2.out.cell 0
    have hc := rsent_is W2 w.heap.size g n sn p.seq HW2.out.rf (by omega)
    rw [hs1, hb1] at hc
    go_wp2_with fail
    refine hc.mono ?_
    clear hc
    rintro e Wq ⟨rfl, hb⟩
    have HWt1 := Lib.hid (HW2.out.below hb)
    have HYt1 := Lib.hid (HY2.out.below hb)
    clear hb y0 HW2 HY2
    generalize Wq = Wt1 at HWt1 HYt1 ⊢
    have y0 : Wt1.cell? ⟨Y, 0, none⟩ = some (.int .u64 p.seq) := HYt1.out.cell 0
    have hc := written_is Wt1 B m sn p.seq HWt1.out.fa hsq
    rw [hs2, hb2] at hc
    go_wp2_with fail
    refine hc.mono ?_
    clear hc
    rintro e Wq ⟨rfl, rfl⟩
    clear y0
    have y0 : Wt1.cell? ⟨Y, 0, none⟩ = some (.int .u64 p.seq) := HYt1.out.cell 0
    have hc := rwritten_is Wt1 w.heap.size g n sn p.seq HWt1.out.rf (by omega)
    rw [hs2, hb2] at hc
    go_wp2_with fail
    refine hc.mono ?_
    clear hc
    rintro e Wq ⟨rfl, hb⟩
    have HWt2 := Lib.hid (HWt1.out.below hb)
    have HYt2 := Lib.hid (HYt1.out.below hb)
    clear hb y0 HWt1 HYt1
    generalize Wq = Wt2 at HWt2 HYt2 ⊢
    have y0 : Wt2.cell? ⟨Y, 0, none⟩ = some (.int .u64 p.seq) := HYt2.out.cell 0
    have hc := next_same Wt2 B m sn HWt2.out.fa
    rw [hn1, hn2, hn3] at hc
    go_wp2_with fail
    refine hc.mono ?_
    clear hc
    rintro e Wq ⟨rfl, hb⟩
    have HWt3 := Lib.hid (HWt2.out.below hb)
    have HYt3 := Lib.hid (HYt2.out.below hb)
    clear hb y0 HWt2 HYt2
    generalize Wq = Wt3 at HWt3 HYt3 ⊢
    have y0 : Wt3.cell? ⟨Y, 0, none⟩ = some (.int .u64 p.seq) := HYt3.out.cell 0
    have hc := rnext_is Wt3 w.heap.size g n sn HWt3.out.rf
    rw [hn1, hn2, hn3] at hc
    go_wp2_with fail
    refine hc.mono ?_
    clear hc
    rintro e Wq ⟨rfl, hb⟩
    have HWt4 := Lib.hid (HWt3.out.below hb)
    have HYt4 := Lib.hid (HYt3.out.below hb)
    clear hb y0 HWt3 HYt3
    generalize Wq = Wt4 at HWt4 HYt4 ⊢
    have y0 : Wt4.cell? ⟨Y, 0, none⟩ = some (.int .u64 p.seq) := HYt4.out.cell 0
    have HC1 : Hid (∀ k, Calls Tryd.prog 22 #[.pointer (some ⟨B.f, 0, none⟩), .int .u64 p.seq] (Wt4.drewN k) fun e w' => e = .returned (.bool b3) ∧ w' = Wt4.drewN k) := Lib.hid (fun k => (came_is _ B m sn p.seq ((HWt4.out.below (below_drewN' (Below.refl _ _) k)).fa) hsq).mono fun e w' ⟨h1, h2⟩ => ⟨by rw [h1, hb3], h2.symm⟩)
    have HC2 : Hid (∀ k, Calls Tryd.prog 46 #[.pointer (some ⟨g, 0, none⟩), .int .u64 p.seq] (Wt4.drewN k) fun e w' => e = .returned (.bool b3) ∧ w' = Wt4.drewN k) := Lib.hid (fun k => (rcame_is _ w.heap.size g n sn p.seq ((HWt4.out.below (below_drewN' (Below.refl _ _) k)).rf) (by omega) hsq).mono fun e w' ⟨h1, h2⟩ => ⟨by rw [h1, hb3], h2.symm⟩)
    clear hs1 hb1 hs2 hb2 hb3 hn1 hn2 hn3
    go_wp2_with fail
    go_quiet ((first | (go_at_call 22; exact Calls.quiet_of_same (HC1.out _)) | (go_at_call 46; exact Calls.quiet_of_same (HC2.out _))))
    go_wp2_with fail
    exact hK9.out _ _ ⟨rfl, rfl, rfl, rfl, rfl, rfl, rfl, rfl, B, ps, sn, m, n, rfl, by omega, by omega, by omega, HWt4.out.below (below_drewN' (Below.refl _ _) nq)⟩
  · exact KStep.plain rfl fun ρ d u W he hc hdi hd hJ => swp_val (run_move (he.o h10 rfl)) (hJ.pure 0 rfl rfl)
  · exact KStep.plain rfl fun ρ d u W he hc hdi hd hJ => swp_val (run_load (he.o h15 rfl) (ld_pk (show pS2 w B g V ps s (s.timed p) s (s.timed p) m m n n X (acC what which later dt) Y p (d 2) (d 5) W from hJ.st).2.2)) (hJ.pure 1 rfl rfl)
  · refine KStep.plain rfl fun ρ d u W he hc hdi hd hJ => ?_
    have hS : pS2 w B g V ps s (s.timed p) s (s.timed p) m m n n X (acC what which later dt) Y p (d 2) (d 5) W := hJ.st
    rw [hdi] at hS
    exact swp_call (run_call #[.pointer (some ⟨B.f, 0, none⟩), .agg #[.int .u64 p.seq, .int .u64 p.src, .int .u64 p.dst, .string p.data, .int .u64 p.timeout]] (he.func _) (by kernel_rfl) (map2 (he.i hz (hJ.vals 0 (hd 0 (by kernel_rfl))) (j := 0) (d := 189) rfl (by decide)) (he.i hz (hJ.vals 1 (hd 1 (by kernel_rfl))) (j := 1) (d := 190) rfl (by decide)))) (tout_is W hS.1.glob.g B m s p hS.1.fa HP.out) (fun e W' h => ⟨_, by rw [h.1, HCd.out], hJ.go 2 rfl (show pS2 w B g V ps s (s.timed p) s (s.timed p) m m n n X (acC what which later dt) Y p (did d 2 2) (did d 2 5) W' from (by rw [did_at, did_ne d (by decide)]; exact pS2_A hS h.2.1 h.2.2))⟩)
  · exact KStep.plain rfl fun ρ d u W he hc hdi hd hJ => swp_val (run_move (he.o h11 rfl)) (hJ.pure 3 rfl rfl)
  · exact KStep.plain rfl fun ρ d u W he hc hdi hd hJ => swp_val (run_load (he.o h15 rfl) (ld_pk (show pS2 w B g V ps s (s.timed p) s (s.timed p) m m n n X (acC what which later dt) Y p (d 2) (d 5) W from hJ.st).2.2)) (hJ.pure 4 rfl rfl)
  · refine KStep.plain rfl fun ρ d u W he hc hdi hd hJ => ?_
    have hS : pS2 w B g V ps s (s.timed p) s (s.timed p) m m n n X (acC what which later dt) Y p (d 2) (d 5) W := hJ.st
    rw [hdi] at hS
    exact swp_call (run_call #[.pointer (some ⟨g, 0, none⟩), .agg #[.int .u64 p.seq, .int .u64 p.src, .int .u64 p.dst, .string p.data, .int .u64 p.timeout]] (he.func _) (by kernel_rfl) (map2 (he.i hz (hJ.vals 3 (hd 3 (by kernel_rfl))) (j := 3) (d := 192) rfl (by decide)) (he.i hz (hJ.vals 4 (hd 4 (by kernel_rfl))) (j := 4) (d := 193) rfl (by decide)))) (rtoutf_is W hS.1.glob w.heap.size g n s p hS.1.rf (by omega) HP.out) (fun e W' h => ⟨_, by rw [h.1, HCd.out], hJ.go 5 rfl (show pS2 w B g V ps s (s.timed p) s (s.timed p) m m n n X (acC what which later dt) Y p (did d 5 2) (did d 5 5) W' from (by rw [did_at, did_ne d (by decide)]; exact pS2_B hS h.2))⟩)
  · exact KStep.plain rfl fun ρ d u W he hc hdi hd hJ => swp_val (run_bin (he.i hz (hJ.vals 2 (hd 2 (by kernel_rfl))) (j := 2) (d := 191) rfl (by decide)) (he.i hz (hJ.vals 5 (hd 5 (by kernel_rfl))) (j := 5) (d := 194) rfl (by decide)) rfl (by go_simp)) (hJ.pure 6 rfl rfl)
  · exact KStep.plain rfl fun ρ d u W he hc hdi hd hJ => swp_val (run_assign (he.i hz (hJ.vals 6 (hd 6 (by kernel_rfl))) (j := 6) (d := 195) rfl (by decide))) (hJ.pure 7 rfl rfl)
end Go.Proofs.YtpekbnkmnellpaaDoor
namespace Go.Proofs.YtpekbnkmnellpaaDoor
open Go.RowKit Go.Maps
set_option linter.unusedVariables false
set_option maxRecDepth 100000 in
set_option maxHeartbeats 32000000 in
theorem play_seven (w : World) (o : Bool) (V1 V2 : Value) (hh : Int) (g j : Nat) (B : FB) (ps : List Pk) (s : Fl) (m n : Nat) (what which later : Int) (dt : ByteArray) (ow : i64r what) (oh : i64r which) (ol : i64r later) (od : dt.size ≤ 140737488351232) (hpl : ps.length ≤ j) (hm : m ≤ j) (hn : n ≤ j) (hj3 : j < 50)
    (K9 : Act → World → Prop) (Q9 : Exit → Act → World → Prop) (hK9 : Hid (∀ a W, PEnd o w V1 V2 hh g j a W → K9 a W)) (a0 : Act) (W : World) (hM : PMid o w V1 V2 hh g j B ps s m n ⟨what, which, later, dt⟩ a0 W) (HT : Hid (pickI what 8 = 7)) : playMid.c.wp Tryd.prog (Exit.inBlock 1 (Exit.then K9 Q9)) a0 W := by
  unfold playMid
  dsimp only
  obtain ⟨hs, hd, e0, e1, e2, e3, e11, e13, e10, X, Y, p, e14, e15, hW, hX, hY, hp, z1, z2⟩ := hM
  obtain ⟨u, hu, ha⟩ := frame284 a0 hs hd
  rw [hu] at e0 e1 e2 e3 e11 e13 e10 e14 e15
  rw [hu] at hW
  rw [ha, e0, e1, e2, e3, e10, e11, e13, e14, e15]
  obtain ⟨V, hV⟩ : ∃ V, u 12 = V := ⟨_, rfl⟩
  rw [hV] at hW
  rw [hV]
  have HX := Lib.hid hX
  have HW := Lib.hid hW
  have HY := Lib.hid hY
  have HP := Lib.hid hp
  have x0 : W.cell? ⟨X, 0, none⟩ = some (.int .i64 what) := hX.cell 0
  clear hs hd hu ha e0 e1 e2 e3 e11 e13 e10 hW hX hY hp e14 e15 hV z1 z2
  clear a0
  have HPk8 := Lib.hid (pick_is what 8 W ow.1 ow.2 (by omega) (by omega))
  rw [HT.out] at HPk8
  go_wp2_with fail
  refine HPk8.out.mono ?_
  rintro e W1 ⟨rfl, rfl⟩
  clear x0 HPk8 HT
  go_upto_region 18 with fail
  go_wp2_with fail
  refine ((fcopy_is W B m s HW.out.fa).mono (fun e w' h => (⟨⟨W.heap.size, W.heap.size + 1, W.heap.size + 2, W.heap.size + 3⟩, h.1, h.2.1, h.2.2, fun x hx => by simp [FB.l] at hx; omega⟩ : ∃ B2 : FB, e = .returned (.pointer (some ⟨B2.f, 0, none⟩)) ∧ FlowAt w' B2 m s ∧ Below W.heap.size W w' ∧ ∀ x ∈ B2.l, W.heap.size ≤ x))).mono ?_
  rintro e W2 ⟨B2, rfl, hf, hb, hl⟩
  have HW2 := Lib.hid (HW.out.flow hf hb (fun x hx => Nat.le_trans HW.out.bel.size (hl x hx)))
  have HY2 := Lib.hid (HY.out.below hb)
  clear hf hb hl HW HY HX
  have hsq : u64r p.seq := HP.out.seq
  obtain ⟨sn, hsn⟩ : ∃ z, s = z := ⟨_, rfl⟩
  rw [hsn] at HW2
  clear hsn
  obtain ⟨s1, hs1⟩ : ∃ z, (sn.sent p.seq).getD ByteArray.empty = z := ⟨_, rfl⟩
  obtain ⟨b1, hb1⟩ : ∃ z, (sn.sent p.seq).isSome = z := ⟨_, rfl⟩
  obtain ⟨s2, hs2⟩ : ∃ z, (sn.written p.seq).getD ByteArray.empty = z := ⟨_, rfl⟩
  obtain ⟨b2, hb2⟩ : ∃ z, (sn.written p.seq).isSome = z := ⟨_, rfl⟩
  obtain ⟨b3, hb3⟩ : ∃ z, sn.came p.seq = z := ⟨_, rfl⟩
  obtain ⟨n1, hn1⟩ : ∃ z, sn.send = z := ⟨_, rfl⟩
  obtain ⟨n2, hn2⟩ : ∃ z, sn.recv = z := ⟨_, rfl⟩
  obtain ⟨n3, hn3⟩ : ∃ z, sn.ack = z := ⟨_, rfl⟩
  have y0 : W2.cell? ⟨Y, 0, none⟩ = some (.int .u64 p.seq) := HY2.out.cell 0
  have hc := sent_is W2 B2 m sn p.seq HW2.out.fa hsq
  rw [hs1, hb1] at hc
  go_wp2_with fail
  refine hc.mono ?_
  clear hc
  rintro e Wq ⟨rfl, rfl⟩
  clear y0
  have y0 : W2.cell? ⟨Y, 0, none⟩ = some (.int .u64 p.seq) := HY2.out.cell 0
  have hc := rsent_is W2 w.heap.size g n sn p.seq HW2.out.rf (by omega)
  rw [hs1, hb1] at hc
  go_wp2_with fail
  refine hc.mono ?_
  clear hc
  rintro e Wq ⟨rfl, hb⟩
  have HWt1 := Lib.hid (HW2.out.below hb)
  have HYt1 := Lib.hid (HY2.out.below hb)
  clear hb y0 HW2 HY2
  generalize Wq = Wt1 at HWt1 HYt1 ⊢
  have y0 : Wt1.cell? ⟨Y, 0, none⟩ = some (.int .u64 p.seq) := HYt1.out.cell 0
  have hc := written_is Wt1 B2 m sn p.seq HWt1.out.fa hsq
  rw [hs2, hb2] at hc
  go_wp2_with fail
  refine hc.mono ?_
  clear hc
  rintro e Wq ⟨rfl, rfl⟩
  clear y0
  have y0 : Wt1.cell? ⟨Y, 0, none⟩ = some (.int .u64 p.seq) := HYt1.out.cell 0
  have hc := rwritten_is Wt1 w.heap.size g n sn p.seq HWt1.out.rf (by omega)
  rw [hs2, hb2] at hc
  go_wp2_with fail
  refine hc.mono ?_
  clear hc
  rintro e Wq ⟨rfl, hb⟩
  have HWt2 := Lib.hid (HWt1.out.below hb)
  have HYt2 := Lib.hid (HYt1.out.below hb)
  clear hb y0 HWt1 HYt1
  generalize Wq = Wt2 at HWt2 HYt2 ⊢
  have y0 : Wt2.cell? ⟨Y, 0, none⟩ = some (.int .u64 p.seq) := HYt2.out.cell 0
  have hc := next_same Wt2 B2 m sn HWt2.out.fa
  rw [hn1, hn2, hn3] at hc
  go_wp2_with fail
  refine hc.mono ?_
  clear hc
  rintro e Wq ⟨rfl, hb⟩
  have HWt3 := Lib.hid (HWt2.out.below hb)
  have HYt3 := Lib.hid (HYt2.out.below hb)
  clear hb y0 HWt2 HYt2
  generalize Wq = Wt3 at HWt3 HYt3 ⊢
  have y0 : Wt3.cell? ⟨Y, 0, none⟩ = some (.int .u64 p.seq) := HYt3.out.cell 0
  have hc := rnext_is Wt3 w.heap.size g n sn HWt3.out.rf
  rw [hn1, hn2, hn3] at hc
  go_wp2_with fail
  refine hc.mono ?_
  clear hc
  rintro e Wq ⟨rfl, hb⟩
  have HWt4 := Lib.hid (HWt3.out.below hb)
  have HYt4 := Lib.hid (HYt3.out.below hb)
  clear hb y0 HWt3 HYt3
  generalize Wq = Wt4 at HWt4 HYt4 ⊢
  have y0 : Wt4.cell? ⟨Y, 0, none⟩ = some (.int .u64 p.seq) := HYt4.out.cell 0
  have HC1 : Hid (∀ k, Calls Tryd.prog 22 #[.pointer (some ⟨B2.f, 0, none⟩), .int .u64 p.seq] (Wt4.drewN k) fun e w' => e = .returned (.bool b3) ∧ w' = Wt4.drewN k) := Lib.hid (fun k => (came_is _ B2 m sn p.seq ((HWt4.out.below (below_drewN' (Below.refl _ _) k)).fa) hsq).mono fun e w' ⟨h1, h2⟩ => ⟨by rw [h1, hb3], h2.symm⟩)
  have HC2 : Hid (∀ k, Calls Tryd.prog 46 #[.pointer (some ⟨g, 0, none⟩), .int .u64 p.seq] (Wt4.drewN k) fun e w' => e = .returned (.bool b3) ∧ w' = Wt4.drewN k) := Lib.hid (fun k => (rcame_is _ w.heap.size g n sn p.seq ((HWt4.out.below (below_drewN' (Below.refl _ _) k)).rf) (by omega) hsq).mono fun e w' ⟨h1, h2⟩ => ⟨by rw [h1, hb3], h2.symm⟩)
  clear hs1 hb1 hs2 hb2 hb3 hn1 hn2 hn3
  go_wp2_with fail
  go_quiet ((first | (go_at_call 22; exact Calls.quiet_of_same (HC1.out _)) | (go_at_call 46; exact Calls.quiet_of_same (HC2.out _))))
  go_wp2_with fail
  exact hK9.out _ _ ⟨rfl, rfl, rfl, rfl, rfl, rfl, rfl, rfl, B2, ps, sn, m, n, rfl, by omega, by omega, by omega, HWt4.out.below (below_drewN' (Below.refl _ _) nq)⟩
end Go.Proofs.YtpekbnkmnellpaaDoor
namespace Go.Proofs.YtpekbnkmnellpaaDoor
open Go.RowKit Go.Maps
set_option linter.unusedVariables false
theorem play_walk (w : World) (G : GlobR w) (o : Bool) (V1 : Value) (acts : List ActR) (V2 : Value) (anyl : List Pk) (hh : Int) (A1 : ActsAt w V1 acts) (A2 : PksAt w V2 anyl) (hu : u64r hh) :
    Calls Tryd.prog 9 #[.bool o, V1, V2, .int .u64 hh] w fun e w' => e = .returned (.bool true) ∧ Below w.heap.size w w' := by
  refine playCut.h w G o V1 acts A1 V2 anyl A2 hh fun g K2 Q2 hK2 gk a0 wr hrel J K hJ hK => ?_
  obtain ⟨hs, hd, e0, e1, e2, e3, e11, j, B, ps, s, m, n, hj, hk, e10, e13, hpl, hm, hn, hW⟩ := hrel
  obtain ⟨v1, c1, rfl, m1, hc1⟩ := id A1
  obtain ⟨v2, c2, rfl, m2, hc2⟩ := id A2
  by_cases hlt : j < acts.length ∧ j < 50
  · obtain ⟨hj1, hj3⟩ := hlt
    refine playMid.h w o v1 c1 acts A1 v2 c2 anyl A2 hh g K2 Q2 hK2 gk a0 wr J K hJ hK hs hd e0 e1 e2 e3 e11 j B ps s m n hj hk e10 e13 hpl hm hn hW hj1 hj3 fun K9 hK9 a W hM => ?_
    obtain ⟨_, _, _, _, _, _, _, _, hok⟩ := hc1 j hj1
    obtain ⟨x, hx⟩ : ∃ x, acts[j] = x := ⟨_, rfl⟩
    rw [hx] at hM hok
    obtain ⟨what, which, later, dt⟩ := x
    have ow : i64r what := hok.what
    have oh : i64r which := hok.which
    have ol : i64r later := hok.later
    have od : dt.size ≤ 140737488351232 := hok.data
    obtain ⟨t80, t81⟩ := pickI_r what 8 (by omega)
    have h8 : pickI what 8 = 0 ∨ pickI what 8 = 1 ∨ pickI what 8 = 2 ∨ pickI what 8 = 3 ∨ pickI what 8 = 4 ∨ pickI what 8 = 5 ∨ pickI what 8 = 6 ∨ pickI what 8 = 7 := by omega
    rcases h8 with h | h | h | h | h | h | h | h
    · exact play_zero _ _ _ _ _ _ _ _ _ _ _ _ _ _ _ _ ow oh ol od hpl hm hn hj3 _ _ (Lib.hid hK9) _ _ hM (Lib.hid h)
    · exact play_one _ _ _ _ _ _ _ _ _ _ _ _ _ _ _ _ ow oh ol od hpl hm hn hj3 _ _ (Lib.hid hK9) _ _ hM (Lib.hid h)
    · exact play_two _ _ _ _ _ _ _ _ _ _ _ _ _ _ _ _ ow oh ol od hpl hm hn hj3 _ _ (Lib.hid hK9) _ _ hM (Lib.hid h)
    · exact play_three _ _ _ _ _ _ _ _ _ _ _ _ _ _ _ _ ow oh ol od hpl hm hn hj3 _ _ (Lib.hid hK9) _ _ hM (Lib.hid h)
    · exact play_four _ _ _ _ _ _ _ _ _ _ _ _ _ _ _ _ ow oh ol od hpl hm hn hj3 _ _ (Lib.hid hK9) _ _ hM (Lib.hid h)
    · exact play_five _ _ _ _ _ _ _ _ _ _ _ _ _ _ _ _ ow oh ol od hpl hm hn hj3 _ _ (Lib.hid hK9) _ _ hM (Lib.hid h)
    · exact play_six _ _ _ _ _ _ _ _ _ _ _ _ _ _ _ _ ow oh ol od hpl hm hn hj3 _ _ (Lib.hid hK9) _ _ hM (Lib.hid h)
    · exact play_seven _ _ _ _ _ _ _ _ _ _ _ _ _ _ _ _ ow oh ol od hpl hm hn hj3 _ _ (Lib.hid hK9) _ _ hM (Lib.hid h)
  · exact play_exit w o v1 c1 acts A1 v2 c2 anyl A2 hh g K2 Q2 hK2 gk a0 wr J K hJ hK hs hd e0 e1 e2 e3 e11 j B ps s m n hj hk e10 e13 hpl hm hn hW hlt
end Go.Proofs.YtpekbnkmnellpaaDoor
