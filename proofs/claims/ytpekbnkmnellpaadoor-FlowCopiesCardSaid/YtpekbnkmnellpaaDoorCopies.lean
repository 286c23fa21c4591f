/-
  The walk of FlowCopies.
-/
import Derived.Test.YtpekbnkmnellpaaDoorCopiesP
import Derived.Deep.DeepCutAuto
namespace Go.Proofs.YtpekbnkmnellpaaDoor
open Go.RowKit Go.Maps
set_option linter.unusedVariables false

/-- what FlowCopies holds in its first loop -/
structure PI (w : World) (B : FB) (V1 : Value) (ps : List Pk) (s : Fl) (m : Nat) (W : World) : Prop where
  flow : FlowAt W B m s
  rowp : RowP W w.heap.size V1 ps
  bel : Below w.heap.size w W
  glob : Glob W
  bge : ∀ x ∈ B.l, w.heap.size ≤ x
  two : 2 ≤ w.heap.size
section
variable {w : World} {B : FB} {V1 : Value} {ps : List Pk} {s s' : Fl} {m m' : Nat} {W W' : World}
theorem PI.below (h : PI w B V1 ps s m W) (hb : Below W.heap.size W W') : PI w B V1 ps s m W' := ⟨h.flow.below hb, own_bel h.rowp hb, bstep h.bel hb, h.glob.below hb h.glob.two, h.bge, h.two⟩
theorem PI.only (h : PI w B V1 ps s m W) (hf : FlowAt W' B m' s') (ho : Only B.l W W') : PI w B V1 ps s' m' W' := by
  refine ⟨hf, own_only h.rowp ho (fun g hg => ?_), h.bel.trans (ho.below h.bge h.bel.size), h.glob.only ho (fun x hx => Nat.le_trans h.two (h.bge x hx)), h.bge, h.two⟩
  obtain ⟨cur, hc⟩ := own_type h.rowp hg
  exact h.flow.apart hc (by decide)
theorem PI.p_at (h : PI w B V1 ps s m W) (k : Nat) (hk : k < ps.length) {ao : Option Addr} {n cap : Nat} (hv : V1 = .slice ao n cap) : ∃ g, ao = some ⟨g, 0, none⟩ ∧ W.cell? ⟨g, k * 5, none⟩ = some (.int .u64 ps[k].seq) ∧ W.cell? ⟨g, k * 5 + 1, none⟩ = some (.int .u64 ps[k].src) ∧ W.cell? ⟨g, k * 5 + 2, none⟩ = some (.int .u64 ps[k].dst) ∧ W.cell? ⟨g, k * 5 + 3, none⟩ = some (.string ps[k].data) ∧ W.cell? ⟨g, k * 5 + 4, none⟩ = some (.int .u64 ps[k].timeout) := by
  obtain ⟨ao', cap', hv', hf⟩ := h.rowp.at_
  rw [hv] at hv'
  cases hv'
  obtain ⟨g, cur, h1, h2, h3, h4⟩ := hf (by omega)
  exact ⟨g, h1, h4 k hk⟩
end
/-- a region of reads and quiet calls that one writing call ends -/
structure WrJ (E I0 I1 : World → Prop) (V : Nat → Value → Prop) (k : Nat) (d : Nat → Bool) (u : Nat → Value) (W : World) : Prop where
  vals : ∀ i, d i = true → V i (u i)
  e : E W
  f0 : d k = false → I0 W
  f1 : d k = true → I1 W
section
variable {E I0 I1 : World → Prop} {V : Nat → Value → Prop} {k : Nat} {d : Nat → Bool} {u : Nat → Value} {W W' : World}
theorem WrJ.pure (h : WrJ E I0 I1 V k d u W) (i : Nat) {v : Value} (hk : i ≠ k) (hv : V i v) : WrJ E I0 I1 V k (did d i) (put1 u i v) W := by
  refine ⟨fun j hj => ?_, h.e, fun hj => h.f0 (by rwa [did_ne d (Ne.symm hk)] at hj), fun hj => h.f1 (by rwa [did_ne d (Ne.symm hk)] at hj)⟩
  by_cases e : j = i
  · subst e; rw [put1_at]; exact hv
  · rw [put1_ne u v e]; exact h.vals j (by rwa [did_ne d e] at hj)
theorem WrJ.last (h : WrJ E I0 I1 V k d u W) {v : Value} (hv : V k v) (he : E W') (h1 : I1 W') : WrJ E I0 I1 V k (did d k) (put1 u k v) W' := by
  refine ⟨fun j hj => ?_, he, fun hj => (by rw [did_at] at hj; cases hj), fun _ => h1⟩
  by_cases e : j = k
  · subst e; rw [put1_at]; exact hv
  · rw [put1_ne u v e]; exact h.vals j (by rwa [did_ne d e] at hj)
end
/-- what region 14's operations yield -/
def wriV (f X : Nat) (later a : Int) (dt : ByteArray) (code : Int) (i : Nat) (v : Value) : Prop := match i with
  | 0 => v = .pointer (some ⟨f, 0, none⟩)
  | 1 => v = .pointer (some ⟨X, 2, none⟩)
  | 2 => v = .int .i64 later
  | 3 => v = .int .i64 a
  | 4 => v = .int .i64 (1 + a)
  | 5 => v = .int .u64 (1 + a)
  | 6 => v = .pointer (some ⟨X, 3, none⟩)
  | 7 => v = .string dt
  | _ => v = .int .i64 code
theorem run_add1 {ρ : Operand → Value} {w : World} {dst : Option Tmp} {t : TypeId} {pos : String} {af : Array Edge} {g : Option (Nat × Bool)} {x y : Operand} {a : Int} (hx : ρ x = .int .i64 1) (hy : ρ y = .int .i64 a) (h0 : 0 ≤ a) (h1 : a ≤ 9) : (execOp ρ ⟨dst, .binOp .add 3 x y 3, t, pos, af, g⟩).run Tryd.prog w = .ok (.value (.int .i64 (1 + a))) w := by
  have hw : IntKind.i64.wrap (1 + a) = 1 + a := by rw [IntKind.wrap_i64]; omega
  simp only [execOp, hx, hy]
  go_simp
/-- both flows -/
structure TI (w : World) (B B2 : FB) (V1 : Value) (ps : List Pk) (s t : Fl) (m m2 : Nat) (W : World) : Prop where
  pi : PI w B V1 ps s m W
  g : FlowAt W B2 m2 t
  ge : ∀ x ∈ B2.l, w.heap.size ≤ x
  ap : ∀ x ∈ B2.l, x ∉ B.l
section
variable {w : World} {B B2 : FB} {V1 : Value} {ps : List Pk} {s t t' : Fl} {m m2 m2' : Nat} {W W' : World}
theorem TI.below (h : TI w B B2 V1 ps s t m m2 W) (hb : Below W.heap.size W W') : TI w B B2 V1 ps s t m m2 W' := ⟨h.pi.below hb, h.g.below hb, h.ge, h.ap⟩
theorem TI.only (h : TI w B B2 V1 ps s t m m2 W) (hf : FlowAt W' B2 m2' t') (ho : Only B2.l W W') : TI w B B2 V1 ps s t' m m2' W' := by
  refine ⟨⟨h.pi.flow.kept ho (fun x hx hm => h.ap x hm hx), own_only h.pi.rowp ho (fun g hg => ?_), h.pi.bel.trans (ho.below h.ge h.pi.bel.size), h.pi.glob.only ho (fun x hx => Nat.le_trans h.pi.two (h.ge x hx)), h.pi.bge, h.pi.two⟩, hf, h.ge, h.ap⟩
  obtain ⟨cur, hc⟩ := own_type h.pi.rowp hg
  exact h.g.apart hc (by decide)
end
def CopRel (o : Bool) (w : World) (B : FB) (c : Nat) (v9 v10 : Value) (wr : World) : Prop :=
  ∃ (j : Nat) (ps : List Pk) (s : Fl) (m : Nat), j ≤ 30 ∧ c = 30 - j ∧ v10 = .int .i64 j ∧ m ≤ 3 * j ∧ FInv o j ps s ∧ PI w B v9 ps s m wr
set_option maxRecDepth 100000 in
set_option maxHeartbeats 1000000 in
theorem copies_walk (w : World) (G : Glob w) (o : Bool) (V : Value) (acts : List ActR) (data : ByteArray) (A1 : ActsAt w V acts) (hdata : data.size ≤ 140737488351232) :
    Calls Tryd.prog 8 #[.bool o, V, .string data] w fun e w' => e = .returned (.bool true) ∧ Below w.heap.size w w' := by
  obtain ⟨v1, c1, rfl, m1, hc1⟩ := A1
  have HC := Lib.hid hc1
  have HG := Lib.hid G
  have h2w := G.two
  clear G hc1
  go_enter Tryd.func8, Tryd.ntmps8
  go_wp2_with fail
  refine (awake_ok w HG.out).mono ?_
  rintro e w1 ⟨rfl, hb1⟩
  have HL1 := Lib.hid hb1
  have HG1 := Lib.hid (HG.out.below hb1 HG.out.two)
  clear hb1 HG
  go_wp2_with fail
  refine (newflow_is o w1).mono ?_
  rintro e w2 ⟨rfl, hf2, hb2, hs2⟩
  have HT : Hid (CopRel o w ⟨w1.heap.size + 3, w1.heap.size, w1.heap.size + 1, w1.heap.size + 2⟩ 30 (.slice none 0 0) (.int .i64 0) w2) :=
    Lib.hid ⟨0, [], Fl.new o, 0, by omega, rfl, rfl, by omega, fi_new o, hf2, World.ownsRow_nil _ _ _ _, bstep HL1.out hb2, HG1.out.below hb2 HG1.out.two, fun x hx => by have := HL1.out.size; simp [FB.l] at hx; omega, h2w⟩
  go_wp2_with fail
  clear hf2 hb2 hs2 HL1 HG1
  generalize w1.heap.size = N at HT ⊢
  go_loopg [9, 10] 30 (fun c v9 v10 wr => CopRel o w ⟨N + 3, N, N + 1, N + 2⟩ c v9 v10 wr)
  case atStart => exact HT.out
  case round =>
    clear HT
    obtain ⟨j, ps, s, m, hj, hk, rfl, hmj, hI, hPI⟩ := hrel
    have HK := Lib.hid hk
    have HI := Lib.hid hI
    clear hk hI
    obtain ⟨ao1, cp1, rfl, hf1⟩ := hPI.rowp.at_
    have HPI := Lib.hid hPI
    clear hf1 hPI
    by_cases hlt : j < acts.length ∧ j < 30
    · obtain ⟨hj1, hj3⟩ := hlt
      obtain ⟨b, off, rfl, hb, k0, k1, k2, k3, hok⟩ := HC.out j hj1
      have hw0 := HPI.out.bel
      have d0 := (hw0.cell (p := ⟨b, off + j * 4, none⟩) hb).trans k0
      have d1 := (hw0.cell (p := ⟨b, off + j * 4 + 1, none⟩) hb).trans k1
      have d2 := (hw0.cell (p := ⟨b, off + j * 4 + 2, none⟩) hb).trans k2
      have d3 := (hw0.cell (p := ⟨b, off + j * 4 + 3, none⟩) hb).trans k3
      clear k0 k1 k2 k3 hw0
      generalize acts[j] = x at d0 d1 d2 d3 hok
      obtain ⟨what, which, later, dt⟩ := x
      have ow : i64r what := hok.what
      have oh : i64r which := hok.which
      have ol : i64r later := hok.later
      have od : dt.size ≤ 140737488351232 := hok.data
      simp only at d0 d1 d2 d3
      clear hok
      go_upto_region 10 with fail
      clear d0 d1 d2 d3
      have HX := Lib.hid (Blk.new wr 48 (actC what which later dt))
      have HP3 := Lib.hid (HPI.out.below (balloc (Below.refl _ wr) (.cells (actC what which later dt) 48)))
      clear HPI
      change Code.wp _ _ _ _ (wr.alloc (.cells (actC what which later dt) 48))
      generalize wr.alloc (.cells (actC what which later dt) 48) = w3 at HX HP3 ⊢
      generalize wr.heap.size = X at HX ⊢
      have x3 : w3.cell? ⟨X, 3, none⟩ = some (.string dt) := HX.out.cell 3
      go_wp2_with fail
      have hsn : Calls Tryd.prog 25 #[.pointer (some ⟨N + 3, 0, none⟩), .int .u64 1, .int .u64 2, .string dt, .int .u64 0] w3 _ := send_is w3 HP3.out.glob ⟨N + 3, N, N + 1, N + 2⟩ m s 1 2 0 dt HP3.out.flow ⟨by omega, by omega⟩ ⟨by omega, by omega⟩ ⟨by omega, by omega⟩ od (by unfold maxLen; omega)
      refine hsn.mono ?_
      clear hsn
      rintro e w4 ⟨rfl, hf4, ho4⟩
      have HP4 := Lib.hid (HP3.out.only hf4 ho4)
      have HX4 := Lib.hid (HX.out.only ho4 (HP3.out.flow.apart HX.out (by decide)))
      have HPr := Lib.hid (sendd_recv s 1 2 0 dt)
      clear hf4 ho4 HP3 HX x3
      obtain ⟨q, hq⟩ : ∃ q, s.pkt 1 2 dt 0 = q := ⟨_, rfl⟩
      rw [hq]
      have HQ := Lib.hid hq
      clear hq
      obtain ⟨sc, hsc⟩ : ∃ c, sendCode dt = c := ⟨_, rfl⟩
      rw [hsc]
      have HSC := Lib.hid hsc
      clear hsc
      obtain ⟨s4, hs4⟩ : ∃ x, s.sendd 1 2 dt 0 = x := ⟨_, rfl⟩
      rw [hs4] at HP4 HPr
      have HS4 := Lib.hid hs4
      clear hs4
      obtain ⟨q0, q1, q2, q3, q4⟩ := q
      simp only [Pk.v]
      go_upto_if 65 with fail
      have HX5 := Lib.hid (HX4.out.alloc (.cells #[.int .u64 q0, .int .u64 q1, .int .u64 q2, .string q3, .int .u64 q4] 24))
      have HP5 := Lib.hid (HP4.out.below (balloc (Below.refl _ w4) (.cells #[.int .u64 q0, .int .u64 q1, .int .u64 q2, .string q3, .int .u64 q4] 24)))
      have HPk := Lib.hid (Blk.new w4 24 #[.int .u64 q0, .int .u64 q1, .int .u64 q2, .string q3, .int .u64 q4])
      clear HX4 HP4
      generalize w4.alloc (.cells #[.int .u64 q0, .int .u64 q1, .int .u64 q2, .string q3, .int .u64 q4] 24) = w5 at HX5 HP5 HPk ⊢
      generalize w4.heap.size = Y at HPk ⊢
      go_cut [9] (fun v wx => ∃ ps' ao cp, v = .slice ao ps'.length cp ∧ FInv o (j + 1) ps' s4 ∧ PI w ⟨N + 3, N, N + 1, N + 2⟩ v ps' s4 (m + 1) wx ∧ Blk wx X 48 (actC what which later dt))
      case first =>
        -- <
        by_cases h4 : 400 < dt.size
        · have t4 : (sc == 0) = false := by rw [← HSC.out]; unfold sendCode; rw [if_pos h4]; rfl
          obtain ⟨l1, l2⟩ := fi_long HI.out 1 2 0 dt h4
          rw [HS4.out] at l1
          have HR := Lib.hid l1
          clear l1 l2
          go_wp2_with fail
          go_meet
          case rel => exact ⟨ps, _, _, rfl, HR.out, HP5.out, HX5.out⟩
        · have t4 : (sc == 0) = true := by rw [← HSC.out]; unfold sendCode; rw [if_neg h4]; rfl
          obtain ⟨l1, l2, l3⟩ := fi_send HI.out (by omega) 1 2 0 dt h4 ⟨by omega, by omega⟩ ⟨by omega, by omega⟩ ⟨by omega, by omega⟩
          rw [HS4.out] at l3
          rw [HQ.out] at l1
          have HR := Lib.hid l3
          have HQ1 := Lib.hid l1
          clear l1 l2 l3
          have p0 : w5.cell? ⟨Y, 0, none⟩ = some (.int .u64 q0) := HPk.out.cell 0
          have p1 : w5.cell? ⟨Y, 1, none⟩ = some (.int .u64 q1) := HPk.out.cell 1
          have p2 : w5.cell? ⟨Y, 2, none⟩ = some (.int .u64 q2) := HPk.out.cell 2
          have p3 : w5.cell? ⟨Y, 3, none⟩ = some (.string q3) := HPk.out.cell 3
          have p4 : w5.cell? ⟨Y, 4, none⟩ = some (.int .u64 q4) := HPk.out.cell 4
          obtain ⟨i0, hi, hz0, hz1, hz2⟩ := info_parts info_pk
          have HIp := Lib.hid (And.intro hi (And.intro hz0 (And.intro hz1 hz2)))
          clear hi hz0 hz1 hz2
          have HOw : Hid ((w5.alloc (.cells #[.int .u64 q0, .int .u64 q1, .int .u64 q2, .string q3, .int .u64 q4] 24)).ownsRow w.heap.size 24 5 (.slice ao1 ps.length cp1) ps.length (pC ps)) := Lib.hid (HP5.out.rowp.alloc _)
          have hsz := HP5.out.bel.size
          have hpl : ps.length ≤ j := HI.out.small
          have hd4 : dt.size ≤ 400 := by omega
          clear h4
          go_wp2_with (at_builtin; refine wpList_append_lies _ rfl _ _ 45 rfl w.heap.size 24 i0 (.agg #[.int .u64 0, .int .u64 0, .int .u64 0, .string ⟨#[]⟩, .int .u64 0]) 5 48 Tryd.underlying45 HIp.out.1 HIp.out.2.1 HIp.out.2.2.1 HIp.out.2.2.2 rfl (by decide) _ _ _ rfl HOw.out ⟨w5.heap.size, 0, none⟩ 1 1 (pkC ⟨q0, q1, q2, q3, q4⟩) rfl rfl ?c1 ?c2 (by decide) ?c3 ?c4 ?c5 _ rfl ?_)
          case c1 => exact World.news_of_block (heap_alloc_new w5 _)
          case c2 => intro x hx; simp [pkC] at hx; rcases hx with rfl | rfl | rfl | rfl | rfl <;> rfl
          case c3 => unfold maxLen; omega
          case c4 => omega
          case c5 => simp; omega
          intro g5 cap5 w6 hown5 hgrow5 hat5 hlt5
          have hnb : ∀ g, (Value.slice ao1 ps.length cp1).ownBlock = some g → ∃ cur, Blk w5 g 24 cur := fun g hg => own_type HP5.out.rowp hg
          have HF6 := Lib.hid (grown_flow (HP5.out.flow.alloc (.cells #[.int .u64 q0, .int .u64 q1, .int .u64 q2, .string q3, .int .u64 q4] 24)) hgrow5 (fun g hg => (by obtain ⟨cur, hc⟩ := hnb g hg; exact HP5.out.flow.apart hc (by decide))))
          have HB6 := Lib.hid (grown_below (balloc HP5.out.bel (.cells #[.int .u64 q0, .int .u64 q1, .int .u64 q2, .string q3, .int .u64 q4] 24)) hgrow5 (fun g hg => own_ge HP5.out.rowp hg))
          have HG6 := Lib.hid (grown_glob (HP5.out.glob.alloc (.cells #[.int .u64 q0, .int .u64 q1, .int .u64 q2, .string q3, .int .u64 q4] 24)) hgrow5 (fun g hg => Nat.le_trans h2w (own_ge HP5.out.rowp hg)))
          have HX6 : Hid (Blk w6 X 48 (actC what which later dt)) := Lib.hid ((HX5.out.alloc (.cells #[.int .u64 q0, .int .u64 q1, .int .u64 q2, .string q3, .int .u64 q4] 24)).only (Only.of_grown hgrow5) (fun hm => by
            obtain ⟨cur, hc⟩ := hnb X (by simpa using hm)
            have hx := HX5.out
            unfold Blk at hc hx
            rw [hx] at hc
            simp at hc))
          have HRp := Lib.hid (push_p hown5)
          have HBg := Lib.hid HP5.out.bge
          clear hown5 hgrow5 hat5 hlt5 p0 p1 p2 p3 p4 HP5 HX5 HPk HOw hnb
          go_wp2_with fail
          go_meet
          case rel => exact ⟨ps ++ [⟨q0, q1, q2, q3, q4⟩], _, _, by rw [List.length_append]; rfl, by rw [HQ1.out]; exact HR.out, ⟨HF6.out, HRp.out, HB6.out, HG6.out, HBg.out, h2w⟩, HX6.out⟩
        -- >
      case rest =>
        obtain ⟨ps', ao9, cp9, rfl, hI5, hP5, hX5⟩ := hcut
        have HI5 := Lib.hid hI5
        have HP6 := Lib.hid hP5
        have HX6 := Lib.hid hX5
        clear hI5 hP5 hX5 HX5 HP5 HPk HSC HQ HS4
        have x1 : wc.cell? ⟨X, 1, none⟩ = some (.int .i64 which) := HX6.out.cell 1
        go_wp2_with fail
        refine (pick_is which 5 wc oh.1 oh.2 (by omega) (by omega)).mono ?_
        rintro e wc' ⟨rfl, rfl⟩
        have hp5 := pickI_r which 5 (by omega)
        generalize pickI which 5 = a at hp5 ⊢
        obtain ⟨ha0, ha1⟩ := hp5
        clear x1
        go_wp2_with fail
        have hrc : Calls Tryd.prog 21 #[.pointer (some ⟨N + 3, 0, none⟩), .agg #[.int .u64 (1 + a), .int .u64 0, .int .u64 0, .string ⟨#[]⟩, .int .u64 0], .int .u64 1] wc _ := recv_is wc ⟨N + 3, N, N + 1, N + 2⟩ (m + 1) s4 ⟨1 + a, 0, 0, ⟨#[]⟩, 0⟩ 1 HP6.out.flow ⟨by show 0 ≤ 1 + a; omega, by show 1 + a ≤ _; omega⟩ (by unfold maxLen; omega)
        refine hrc.mono ?_
        clear hrc
        rintro e w7 ⟨rfl, hf7, ho7⟩
        have HP7 := Lib.hid (HP6.out.only hf7 ho7)
        have HX7 := Lib.hid (HX6.out.only ho7 (HP6.out.flow.apart HX6.out (by decide)))
        have HI7 := Lib.hid (fi_recv HI5.out (by have h1 := HPr.out; have h2 := HI.out.rv1; omega) (by omega) ⟨1 + a, 0, 0, ⟨#[]⟩, 0⟩ 1 (by show 1 + a ≤ 5; omega))
        clear hf7 ho7 HP6 HX6 HI5
        generalize s4.recvCode ⟨1 + a, 0, 0, ⟨#[]⟩, 0⟩ 1 = rc
        generalize s4.recvd ⟨1 + a, 0, 0, ⟨#[]⟩, 0⟩ 1 = s7 at HP7 HI7
        go_upto_region 14 with fail
        have hp6 := pickI_r later 5 (by omega)
        refine wp_abs fun a0 hA => ?_
        have h8 : a0.eval (.tmp 8) = .pointer (some ⟨N + 3, 0, none⟩) := by rw [hA]; rfl
        have h11 : a0.eval (.tmp 11) = .pointer (some ⟨X, 0, none⟩) := by rw [hA]; rfl
        have hz : a0.tmps.size = 216 := by rw [hA]; rfl
        refine wp_region_J [some 78, some 79, some 80, some 81, some 82, some 83, some 84, some 85, some 86] 216 (WrJ (fun W => Blk W X 48 (actC what which later dt)) (fun W => PI w ⟨N + 3, N, N + 1, N + 2⟩ (.slice ao9 ps'.length cp9) ps' s7 (m + 1 + 1) W) (fun W => PI w ⟨N + 3, N, N + 1, N + 2⟩ (.slice ao9 ps'.length cp9) ps' (s7.writ (1 + pickI later 5) dt) (m + 1 + 1 + 1) W) (wriV (N + 3) X later (pickI later 5) dt (s7.wCode (1 + pickI later 5))) 8) (by kernel_rfl) (by kernel_rfl) (by kernel_rfl) rfl (by kernel_rfl) hz (fun u => ⟨fun i h => (by cases h), HX7.out, fun _ => HP7.out.below (Below.refl _ _).drew, fun h => (by cases h)⟩) ?_ ⟨?_, ?_, ?_, ?_, ?_, ?_, ?_, ?_, ?_, trivial⟩
        · intro d u W hd hJ
          have HP8 := Lib.hid (hJ.f1 (hd 8 (by decide)))
          have HI8 := Lib.hid (fi_write HI7.out (1 + pickI later 5) dt (by omega))
          rw [hA]
          simp only [putAll, Act.put, List.setIfInBounds_toArray, List.set_cons_zero, List.set_cons_succ]
          clear hJ hd h8 h11 hz hA HP7 HX7
          clear a0
          go_wp2_with fail
          go_roundg (30 - (j + 1))
          case measure => rw [HK.out]; omega
          case rel => exact ⟨j + 1, ps', _, m + 1 + 1 + 1, by omega, rfl, by go_num, by omega, HI8.out, HP8.out⟩
        · exact JStep.plain rfl fun ρ d u W he hdi hd hJ => swp_val (run_move (he.o h8 rfl)) (hJ.pure 0 (by decide) rfl)
        · exact JStep.plain rfl fun ρ d u W he hdi hd hJ => swp_val (run_fieldAddr (he.o h11 rfl) (actF2 X W)) (hJ.pure 1 (by decide) rfl)
        · exact JStep.plain rfl fun ρ d u W he hdi hd hJ => swp_val (run_load (he.i hz (hJ.vals 1 (hd 1 (by kernel_rfl))) (j := 1) (d := 79) rfl (by decide)) (load_int X 2 W later (hJ.e.cell 2))) (hJ.pure 2 (by decide) rfl)
        · exact JStep.plain rfl fun ρ d u W he hdi hd hJ => swp_call (run_call #[.int .i64 later, .int .i64 5] (he.func _) (by kernel_rfl) (map2 (he.i hz (hJ.vals 2 (hd 2 (by kernel_rfl))) (j := 2) (d := 80) rfl (by decide)) (he.const _))) (pick_is later 5 W ol.1 ol.2 (by omega) (by omega)) (fun e W' h => ⟨_, h.1, h.2 ▸ hJ.pure 3 (by decide) rfl⟩)
        · exact JStep.plain rfl fun ρ d u W he hdi hd hJ => swp_val (run_add1 (he.const _) (he.i hz (hJ.vals 3 (hd 3 (by kernel_rfl))) (j := 3) (d := 81) rfl (by decide)) hp6.1 (by omega)) (hJ.pure 4 (by decide) rfl)
        · exact JStep.plain rfl fun ρ d u W he hdi hd hJ => swp_val (run_convert (he.i hz (hJ.vals 4 (hd 4 (by kernel_rfl))) (j := 4) (d := 82) rfl (by decide)) (conv_u64 _ (by omega) (by omega) W)) (hJ.pure 5 (by decide) rfl)
        · exact JStep.plain rfl fun ρ d u W he hdi hd hJ => swp_val (run_fieldAddr (he.o h11 rfl) (actF3 X W)) (hJ.pure 6 (by decide) rfl)
        · exact JStep.plain rfl fun ρ d u W he hdi hd hJ => swp_val (run_load (he.i hz (hJ.vals 6 (hd 6 (by kernel_rfl))) (j := 6) (d := 84) rfl (by decide)) (load_str X 3 W dt (hJ.e.cell 3))) (hJ.pure 7 (by decide) rfl)
        · exact JStep.plain rfl fun ρ d u W he hdi hd hJ => swp_call (run_call #[.pointer (some ⟨N + 3, 0, none⟩), .int .u64 (1 + pickI later 5), .string dt] (he.func _) (by kernel_rfl) (map3 (he.i hz (hJ.vals 0 (hd 0 (by kernel_rfl))) (j := 0) (d := 78) rfl (by decide)) (he.i hz (hJ.vals 5 (hd 5 (by kernel_rfl))) (j := 5) (d := 83) rfl (by decide)) (he.i hz (hJ.vals 7 (hd 7 (by kernel_rfl))) (j := 7) (d := 85) rfl (by decide)))) (fwrite_is W (hJ.f0 hdi).glob ⟨N + 3, N, N + 1, N + 2⟩ (m + 1 + 1) s7 (1 + pickI later 5) dt (hJ.f0 hdi).flow ⟨by omega, by omega⟩ od (by unfold maxLen; omega)) (fun e W' h => ⟨_, h.1, hJ.last rfl (hJ.e.only h.2.2 ((hJ.f0 hdi).flow.apart hJ.e (by decide))) ((hJ.f0 hdi).only h.2.1 h.2.2)⟩)
    · have HTst : Hid (¬ (j < acts.length ∧ j < 30)) := Lib.hid hlt
      clear hlt
      go_upto_region 7 with fail
      go_cut [50] (fun v wx => v = .bool false ∧ wr = wx)
      case first =>
        by_cases ha : j < acts.length
        · have hc : ¬ j < 30 := fun h => HTst.out ⟨ha, h⟩
          go_wp2_with fail
          go_meet
          case rel => exact ⟨by rw [decide_eq_false (by omega)], rfl⟩
        · go_wp2_with fail
          go_meet
          case rel => exact ⟨rfl, rfl⟩
      case rest =>
        obtain ⟨rfl, rfl⟩ := hcut
        clear HTst HK HC
        have hpl : ps.length ≤ j := HI.out.small
        have hr0 := HI.out.rv0
        have hr1 := HI.out.rv1
        go_wp2_with fail
        refine (fcopy_is wr ⟨N + 3, N, N + 1, N + 2⟩ m s HPI.out.flow).mono ?_
        rintro e w5 ⟨rfl, hg5, hb5⟩
        have HT5 : Hid (TI w ⟨N + 3, N, N + 1, N + 2⟩ ⟨wr.heap.size, wr.heap.size + 1, wr.heap.size + 2, wr.heap.size + 3⟩ (.slice ao1 ps.length cp1) ps s s m m w5) := Lib.hid ⟨HPI.out.below hb5, hg5, fun x hx => (by have := HPI.out.bel.size; simp [FB.l] at hx; omega), fun x hx hm => (by have := HPI.out.flow.lt x hm; simp [FB.l] at hx; omega)⟩
        clear hg5 hb5 HPI
        generalize wr.heap.size = M at HT5 ⊢
        go_wp2_with fail
        have hn := next_same w5 ⟨N + 3, N, N + 1, N + 2⟩ m s HT5.out.pi.flow
        rw [HI.out.send, HI.out.ack] at hn
        refine hn.mono ?_
        clear hn
        rintro e w6 ⟨rfl, hb6⟩
        have HT6 := Lib.hid (HT5.out.below hb6)
        clear hb6 HT5
        go_wp2_with fail
        have hn := next_same w6 ⟨M, M + 1, M + 2, M + 3⟩ m s HT6.out.g
        rw [HI.out.send, HI.out.ack] at hn
        refine hn.mono ?_
        clear hn
        rintro e w7 ⟨rfl, hb7⟩
        have HT7 := Lib.hid (HT6.out.below hb7)
        clear hb7 HT6
        go_wp2_with fail
        obtain ⟨dd, hdd⟩ : ∃ x, data.extract 0 (min (data.size : Int) 400).toNat = x := ⟨_, rfl⟩
        have hdz : dd.size ≤ 400 := by rw [← hdd, ByteArray.size_extract]; omega
        have hdn : ¬ 400 < dd.size := by omega
        rw [hdd]
        clear hdd
        refine (send_is w7 HT7.out.pi.glob ⟨M, M + 1, M + 2, M + 3⟩ m s 1 2 0 dd HT7.out.g ⟨by omega, by omega⟩ ⟨by omega, by omega⟩ ⟨by omega, by omega⟩ (by omega) (by unfold maxLen; omega)).mono ?_
        rintro e w8 ⟨rfl, hf8, ho8⟩
        have HT8 := Lib.hid (HT7.out.only hf8 ho8)
        clear hf8 ho8 HT7
        generalize Value.tuple #[(s.pkt 1 2 dd 0).v, .int .i64 (sendCode dd)] = sv
        go_wp2_with fail
        have hrc : Calls Tryd.prog 21 #[.pointer (some ⟨M, 0, none⟩), .agg #[.int .u64 s.recv, .int .u64 0, .int .u64 0, .string ⟨#[]⟩, .int .u64 0], .int .u64 1] w8 _ := recv_is w8 ⟨M, M + 1, M + 2, M + 3⟩ (m + 1) (s.sendd 1 2 dd 0) ⟨s.recv, 0, 0, ⟨#[]⟩, 0⟩ 1 HT8.out.g ⟨by show 0 ≤ s.recv; omega, by show s.recv ≤ _; omega⟩ (by unfold maxLen; omega)
        refine hrc.mono ?_
        clear hrc
        rintro e w9 ⟨rfl, hf9, ho9⟩
        have HT9 := Lib.hid (HT8.out.only hf9 ho9)
        clear hf9 ho9 HT8
        generalize (s.sendd 1 2 dd 0).recvCode ⟨s.recv, 0, 0, ⟨#[]⟩, 0⟩ 1 = rc9
        go_wp2_with fail
        have hrc : Calls Tryd.prog 21 #[.pointer (some ⟨M, 0, none⟩), .agg #[.int .u64 99, .int .u64 0, .int .u64 0, .string ⟨#[]⟩, .int .u64 0], .int .u64 1] w9 _ := recv_is w9 ⟨M, M + 1, M + 2, M + 3⟩ (m + 1 + 1) ((s.sendd 1 2 dd 0).recvd ⟨s.recv, 0, 0, ⟨#[]⟩, 0⟩ 1) ⟨99, 0, 0, ⟨#[]⟩, 0⟩ 1 HT9.out.g ⟨by show (0 : Int) ≤ 99; omega, by show (99 : Int) ≤ _; omega⟩ (by unfold maxLen; omega)
        refine hrc.mono ?_
        clear hrc
        rintro e w10 ⟨rfl, hf10, ho10⟩
        have HT10 := Lib.hid (HT9.out.only hf10 ho10)
        clear hf10 ho10 HT9
        generalize ((s.sendd 1 2 dd 0).recvd ⟨s.recv, 0, 0, ⟨#[]⟩, 0⟩ 1).recvCode ⟨99, 0, 0, ⟨#[]⟩, 0⟩ 1 = rc10
        go_wp2_with fail
        refine (fwrite_is w10 HT10.out.pi.glob ⟨M, M + 1, M + 2, M + 3⟩ (m + 1 + 1 + 1) _ 99 ⟨#[120]⟩ HT10.out.g ⟨by omega, by omega⟩ (by decide) (by unfold maxLen; omega)).mono ?_
        rintro e w11 ⟨rfl, hf11, ho11⟩
        have HT11 := Lib.hid (HT10.out.only hf11 ho11)
        have HGI := Lib.hid (gi_start HI.out (by omega) dd hdn ⟨s.recv, 0, 0, ⟨#[]⟩, 0⟩ ⟨99, 0, 0, ⟨#[]⟩, 0⟩ ⟨#[120]⟩ 1 1 99)
        clear hf11 ho11 HT10
        generalize (((s.sendd 1 2 dd 0).recvd ⟨s.recv, 0, 0, ⟨#[]⟩, 0⟩ 1).recvd ⟨99, 0, 0, ⟨#[]⟩, 0⟩ 1).wCode 99 = wc11
        generalize (((s.sendd 1 2 dd 0).recvd ⟨s.recv, 0, 0, ⟨#[]⟩, 0⟩ 1).recvd ⟨99, 0, 0, ⟨#[]⟩, 0⟩ 1).writ 99 ⟨#[120]⟩ = t11 at HT11 HGI
        go_wp2_with fail
        go_loopg [21] ps.length (fun c v wq => ∃ (k : Nat) (t : Fl), k ≤ ps.length ∧ c = ps.length - k ∧ v = .int .i64 k ∧ GInv ps k t ∧ TI w ⟨N + 3, N, N + 1, N + 2⟩ ⟨M, M + 1, M + 2, M + 3⟩ (.slice ao1 ps.length cp1) ps s t m (m + 1 + 1 + 1 + 1) wq)
        case atStart => exact ⟨0, t11, by omega, rfl, rfl, HGI.out, HT11.out⟩
        case round =>
          clear HT11 HGI
          obtain ⟨k, t, hk, hkq, rfl, hGI, hTI⟩ := hrel
          have HKq := Lib.hid hkq
          have HGI := Lib.hid hGI
          have HTI := Lib.hid hTI
          clear hkq hGI hTI
          by_cases hl : k < ps.length
          · obtain ⟨g1, e1, q0, q1, q2, q3, q4⟩ := HTI.out.pi.p_at k hl rfl
            subst e1
            have HPo := Lib.hid (HI.out.p.ok _ (List.getElem_mem hl))
            have hs1 := sent_is wr ⟨M, M + 1, M + 2, M + 3⟩ (m + 1 + 1 + 1 + 1) t ps[k].seq HTI.out.g HPo.out.seq
            rw [HGI.out.sent k hl (Nat.le_refl _)] at hs1
            simp only [Option.getD_some, Option.isSome_some] at hs1
            have HS1 := Lib.hid hs1
            clear hs1
            obtain ⟨gi1, gi2⟩ := gi_step HGI.out HI.out.p hl
            have HTo : Hid (∀ W, Glob W → FlowAt W ⟨M, M + 1, M + 2, M + 3⟩ (m + 1 + 1 + 1 + 1) t → Calls Tryd.prog 26 #[.pointer (some ⟨M, 0, none⟩), .agg #[.int .u64 ps[k].seq, .int .u64 ps[k].src, .int .u64 ps[k].dst, .string ps[k].data, .int .u64 ps[k].timeout]] W fun e w' => e = .returned (.int .i64 0) ∧ FlowAt w' ⟨M, M + 1, M + 2, M + 3⟩ (m + 1 + 1 + 1 + 1) (t.timed ps[k]) ∧ Only (FB.mk M (M + 1) (M + 2) (M + 3)).l W w') := Lib.hid (fun W hG hF => by have := tout_is W hG ⟨M, M + 1, M + 2, M + 3⟩ (m + 1 + 1 + 1 + 1) t ps[k] hF HPo.out; rw [gi2] at this; exact this)
            have HGI1 := Lib.hid gi1
            clear gi1 gi2
            have HS2 : Hid (∀ W, FlowAt W ⟨N + 3, N, N + 1, N + 2⟩ m s → Calls Tryd.prog 28 #[.pointer (some ⟨N + 3, 0, none⟩), .int .u64 ps[k].seq] W fun e w' => e = .returned (.tuple #[.string ps[k].comm, .bool true]) ∧ W = w') := Lib.hid (fun W hF => by have := sent_is W ⟨N + 3, N, N + 1, N + 2⟩ m s ps[k].seq hF HPo.out.seq; rw [HI.out.sent, fSent_at HI.out.p k hl] at this; exact this)
            generalize ps[k].comm = cm at HS1 HS2
            go_wp2_with fail
            refine HS1.out.mono ?_
            rintro e w12 ⟨rfl, rfl⟩
            go_wp2_with fail
            refine (HTo.out wr HTI.out.pi.glob HTI.out.g).mono ?_
            rintro e w13 ⟨rfl, hf13, ho13⟩
            have HT13 := Lib.hid (HTI.out.only hf13 ho13)
            clear hf13 ho13 HTI HTo HS1 HGI q0 q1 q2 q3 q4
            obtain ⟨g1', e1', q0, q1, q2, q3, q4⟩ := HT13.out.pi.p_at k hl rfl
            cases e1'
            go_wp2_with fail
            refine (HS2.out w13 HT13.out.pi.flow).mono ?_
            rintro e w14 ⟨rfl, rfl⟩
            clear q0 q1 q2 q3 q4
            go_wp2_with fail
            go_roundg (ps.length - (k + 1))
            case measure => rw [HKq.out]; omega
            case rel => exact ⟨k + 1, _, by omega, rfl, by go_num, HGI1.out, HT13.out⟩
          · have hkn : ¬ (k : Int) < (ps.length : Int) := by omega
            go_wp2_with fail
            have hn := next_same wr ⟨N + 3, N, N + 1, N + 2⟩ m s HTI.out.pi.flow
            rw [HI.out.send, HI.out.ack] at hn
            refine hn.mono ?_
            clear hn
            rintro e w12 ⟨rfl, hb12⟩
            have HT12 := Lib.hid (HTI.out.below hb12)
            clear hb12 HTI
            obtain ⟨ca, wr9⟩ := fi_came HI.out (by omega)
            have hw := written_is w12 ⟨N + 3, N, N + 1, N + 2⟩ m s 99 HT12.out.pi.flow ⟨by omega, by omega⟩
            rw [wr9] at hw
            have HW := Lib.hid hw
            have HCa := Lib.hid ca
            clear ca wr9 hw
            generalize (s.written 99).getD ByteArray.empty = wv at HW
            go_wp2_with fail
            refine HW.out.mono ?_
            rintro e w13 ⟨rfl, rfl⟩
            clear HW
            go_wp2_with fail
            have hn := next_same w12 ⟨M, M + 1, M + 2, M + 3⟩ (m + 1 + 1 + 1 + 1) t HT12.out.g
            rw [HGI.out.send] at hn
            refine hn.mono ?_
            clear hn
            rintro e w14 ⟨rfl, hb14⟩
            have HT14 := Lib.hid (HT12.out.below hb14)
            clear hb14 HT12
            generalize t.recv = tr
            generalize t.ack = ta
            go_wp2_with fail
            have hc := came_is w14 ⟨N + 3, N, N + 1, N + 2⟩ m s 99 HT14.out.pi.flow ⟨by omega, by omega⟩
            rw [HCa.out] at hc
            refine hc.mono ?_
            clear hc
            rintro e w15 ⟨rfl, rfl⟩
            go_wp2_with fail
            go_ret
            exact ⟨rfl, HT14.out.pi.bel⟩
end Go.Proofs.YtpekbnkmnellpaaDoor
