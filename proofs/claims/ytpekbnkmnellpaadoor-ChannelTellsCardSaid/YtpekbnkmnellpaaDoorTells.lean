/-
  The walk of ChannelTells.
-/
import Derived.Test.YtpekbnkmnellpaaDoorRDoc
import Derived.Test.YtpekbnkmnellpaaDoorSeatB
import Derived.Test.YtpekbnkmnellpaaDoorEqs
import Derived.Test.YtpekbnkmnellpaaDoorOpenC
import Derived.Test.YtpekbnkmnellpaaDoorApart
namespace Go.Proofs.YtpekbnkmnellpaaDoor
open Go.RowKit
set_option linter.unusedVariables false

theorem ack_pair (own : Int) (c : Ch) (pl peer : Int) : ∃ (X Y : Ch) (e : Int), (∀ W, Calls Tryd.prog 32 #[.int .u64 own, .agg #[.int .i64 c.state, .bool c.ordered, .int .u64 c.link, .int .u64 c.peer, .string c.port, .string c.pport], .int .u64 pl, .int .u64 peer] W fun e' w' => e' = .returned (.tuple #[.agg #[.int .i64 X.state, .bool X.ordered, .int .u64 X.link, .int .u64 X.peer, .string X.port, .string X.pport], .agg #[.int .i64 Y.state, .bool Y.ordered, .int .u64 Y.link, .int .u64 Y.peer, .string Y.port, .string Y.pport], .int .i64 e]) ∧ Below W.heap.size W w') ∧ (∀ W, Calls Tryd.prog 56 #[.int .u64 own, .agg #[.int .i64 c.state, .bool c.ordered, .int .u64 c.link, .int .u64 c.peer, .string c.port, .string c.pport], .int .u64 pl, .int .u64 peer] W fun e' w' => e' = .returned (.tuple #[.agg #[.int .i64 X.state, .bool X.ordered, .int .u64 X.link, .int .u64 X.peer, .string X.port, .string X.pport], .agg #[.int .i64 Y.state, .bool Y.ordered, .int .u64 Y.link, .int .u64 Y.peer, .string Y.port, .string Y.pport], .int .i64 e]) ∧ Below W.heap.size W w') := by
  by_cases h : c.state = 1
  · exact ⟨⟨3, c.ordered, c.link, peer, c.port, c.pport⟩, ⟨2, c.ordered, pl, own, c.pport, c.port⟩, 0, fun W => ack_yes own _ _ _ _ _ _ pl peer W h, fun W => rack_yes own _ _ _ _ _ _ pl peer W h⟩
  · exact ⟨Ch.zero, Ch.zero, 180, fun W => ack_no own _ _ _ _ _ _ pl peer W h, fun W => rack_no own _ _ _ _ _ _ pl peer W h⟩
theorem confirm_pair (own : Int) (c : Ch) (pl : Int) : ∃ (X Y : Ch) (e : Int), (∀ W, Calls Tryd.prog 33 #[.int .u64 own, .agg #[.int .i64 c.state, .bool c.ordered, .int .u64 c.link, .int .u64 c.peer, .string c.port, .string c.pport], .int .u64 pl] W fun e' w' => e' = .returned (.tuple #[.agg #[.int .i64 X.state, .bool X.ordered, .int .u64 X.link, .int .u64 X.peer, .string X.port, .string X.pport], .agg #[.int .i64 Y.state, .bool Y.ordered, .int .u64 Y.link, .int .u64 Y.peer, .string Y.port, .string Y.pport], .int .i64 e]) ∧ Below W.heap.size W w') ∧ (∀ W, Calls Tryd.prog 57 #[.int .u64 own, .agg #[.int .i64 c.state, .bool c.ordered, .int .u64 c.link, .int .u64 c.peer, .string c.port, .string c.pport], .int .u64 pl] W fun e' w' => e' = .returned (.tuple #[.agg #[.int .i64 X.state, .bool X.ordered, .int .u64 X.link, .int .u64 X.peer, .string X.port, .string X.pport], .agg #[.int .i64 Y.state, .bool Y.ordered, .int .u64 Y.link, .int .u64 Y.peer, .string Y.port, .string Y.pport], .int .i64 e]) ∧ Below W.heap.size W w') := by
  by_cases h : c.state = 2
  · exact ⟨⟨3, c.ordered, c.link, c.peer, c.port, c.pport⟩, ⟨3, c.ordered, pl, own, c.pport, c.port⟩, 0, fun W => confirm_yes own _ _ _ _ _ _ pl W h, fun W => rconfirm_yes own _ _ _ _ _ _ pl W h⟩
  · exact ⟨Ch.zero, Ch.zero, 180, fun W => confirm_no own _ _ _ _ _ _ pl W h, fun W => rconfirm_no own _ _ _ _ _ _ pl W h⟩
theorem closed_pair (own : Int) (c : Ch) (pl : Int) : ∃ (X Y : Ch) (e : Int), (∀ W, Calls Tryd.prog 35 #[.int .u64 own, .agg #[.int .i64 c.state, .bool c.ordered, .int .u64 c.link, .int .u64 c.peer, .string c.port, .string c.pport], .int .u64 pl] W fun e' w' => e' = .returned (.tuple #[.agg #[.int .i64 X.state, .bool X.ordered, .int .u64 X.link, .int .u64 X.peer, .string X.port, .string X.pport], .agg #[.int .i64 Y.state, .bool Y.ordered, .int .u64 Y.link, .int .u64 Y.peer, .string Y.port, .string Y.pport], .int .i64 e]) ∧ Below W.heap.size W w') ∧ (∀ W, Calls Tryd.prog 59 #[.int .u64 own, .agg #[.int .i64 c.state, .bool c.ordered, .int .u64 c.link, .int .u64 c.peer, .string c.port, .string c.pport], .int .u64 pl] W fun e' w' => e' = .returned (.tuple #[.agg #[.int .i64 X.state, .bool X.ordered, .int .u64 X.link, .int .u64 X.peer, .string X.port, .string X.pport], .agg #[.int .i64 Y.state, .bool Y.ordered, .int .u64 Y.link, .int .u64 Y.peer, .string Y.port, .string Y.pport], .int .i64 e]) ∧ Below W.heap.size W w') := by
  by_cases h : c.state = 3
  · exact ⟨⟨4, c.ordered, c.link, c.peer, c.port, c.pport⟩, ⟨4, c.ordered, pl, own, c.pport, c.port⟩, 0, fun W => closed_yes own _ _ _ _ _ _ pl W h, fun W => rclosed_yes own _ _ _ _ _ _ pl W h⟩
  · exact ⟨Ch.zero, Ch.zero, 180, fun W => closed_no own _ _ _ _ _ _ pl W h, fun W => rclosed_no own _ _ _ _ _ _ pl W h⟩
theorem close_pair (c : Ch) : ∃ (X Y : Ch) (e : Int), (∀ W, Calls Tryd.prog 34 #[.agg #[.int .i64 c.state, .bool c.ordered, .int .u64 c.link, .int .u64 c.peer, .string c.port, .string c.pport]] W fun e' w' => e' = .returned (.tuple #[.agg #[.int .i64 X.state, .bool X.ordered, .int .u64 X.link, .int .u64 X.peer, .string X.port, .string X.pport], .int .i64 e]) ∧ Below W.heap.size W w') ∧ (∀ W, Calls Tryd.prog 58 #[.agg #[.int .i64 c.state, .bool c.ordered, .int .u64 c.link, .int .u64 c.peer, .string c.port, .string c.pport]] W fun e' w' => e' = .returned (.tuple #[.agg #[.int .i64 X.state, .bool X.ordered, .int .u64 X.link, .int .u64 X.peer, .string X.port, .string X.pport], .int .i64 e]) ∧ Below W.heap.size W w') := by
  by_cases h : c.state = 3
  · exact ⟨⟨4, c.ordered, c.link, c.peer, c.port, c.pport⟩, Ch.zero, 0, fun W => close_yes _ _ _ _ _ _ W h, fun W => rclose_yes _ _ _ _ _ _ W h⟩
  · exact ⟨Ch.zero, Ch.zero, 180, fun W => close_no _ _ _ _ _ _ W h, fun W => rclose_no _ _ _ _ _ _ W h⟩
structure CtI (w : World) (gx gy : Nat) (c : Ch) (n0 n1 n2 n3 : Int) (p : Pk) (X Y : Ch) (W : World) : Prop where
  bel : Below w.heap.size w W
  c : Blk W w.heap.size 57 c.cs
  n : Blk W (w.heap.size + 1) 55 #[.int .u64 n0, .int .u64 n1, .int .u64 n2, .int .u64 n3]
  p : Blk W (w.heap.size + 1 + 1) 24 p.cs
  x : Blk W gx 57 X.cs
  y : Blk W gy 57 Y.cs
  hx : w.heap.size + 1 + 1 < gx
  hy : gx < gy
section
variable {w : World} {gx gy : Nat} {c : Ch} {n0 n1 n2 n3 : Int} {p : Pk} {X Y : Ch} {W W' : World}
theorem CtI.next (h : CtI w gx gy c n0 n1 n2 n3 p X Y W) (hb : Below W.heap.size W W') : CtI w gx gy c n0 n1 n2 n3 p X Y W' :=
  ⟨bstep h.bel hb, h.c.below hb, h.n.below hb, h.p.below hb, h.x.below hb, h.y.below hb, h.hx, h.hy⟩
theorem CtI.setx (h : CtI w gx gy c n0 n1 n2 n3 p X Y W) (Z : Ch) : CtI w gx gy c n0 n1 n2 n3 p Z Y (setC6 W gx (.int .i64 Z.state) (.bool Z.ordered) (.int .u64 Z.link) (.int .u64 Z.peer) (.string Z.port) (.string Z.pport)) :=
  ⟨below_set6 h.bel gx (by have := h.hx; omega) _ _ _ _ _ _, h.c.other6 gx (by have := h.hx; omega) _ _ _ _ _ _, h.n.other6 gx (by have := h.hx; omega) _ _ _ _ _ _, h.p.other6 gx (by have := h.hx; omega) _ _ _ _ _ _, Blk.set6 h.x _ _ _ _ _ _, h.y.other6 gx (by have := h.hy; omega) _ _ _ _ _ _, h.hx, h.hy⟩
theorem CtI.sety (h : CtI w gx gy c n0 n1 n2 n3 p X Y W) (Z : Ch) : CtI w gx gy c n0 n1 n2 n3 p X Z (setC6 W gy (.int .i64 Z.state) (.bool Z.ordered) (.int .u64 Z.link) (.int .u64 Z.peer) (.string Z.port) (.string Z.pport)) :=
  ⟨below_set6 h.bel gy (by have := h.hx; have := h.hy; omega) _ _ _ _ _ _, h.c.other6 gy (by have := h.hx; have := h.hy; omega) _ _ _ _ _ _, h.n.other6 gy (by have := h.hx; have := h.hy; omega) _ _ _ _ _ _, h.p.other6 gy (by have := h.hx; have := h.hy; omega) _ _ _ _ _ _, h.x.other6 gy (by have := h.hy; omega) _ _ _ _ _ _, Blk.set6 h.y _ _ _ _ _ _, h.hx, h.hy⟩
end
structure CtJ (w : World) (gx gy gz gu : Nat) (c : Ch) (n0 n1 n2 n3 : Int) (p : Pk) (X Y Z U : Ch) (W : World) : Prop where
  i : CtI w gx gy c n0 n1 n2 n3 p X Y W
  z : Blk W gz 57 Z.cs
  u : Blk W gu 57 U.cs
  hz : gy < gz
  hu : gz < gu
section
variable {w : World} {gx gy gz gu : Nat} {c : Ch} {n0 n1 n2 n3 : Int} {p : Pk} {X Y Z U : Ch} {W W' : World}
theorem CtJ.next (h : CtJ w gx gy gz gu c n0 n1 n2 n3 p X Y Z U W) (hb : Below W.heap.size W W') : CtJ w gx gy gz gu c n0 n1 n2 n3 p X Y Z U W' := ⟨h.i.next hb, h.z.below hb, h.u.below hb, h.hz, h.hu⟩
theorem CtJ.setx (h : CtJ w gx gy gz gu c n0 n1 n2 n3 p X Y Z U W) (K : Ch) : CtJ w gx gy gz gu c n0 n1 n2 n3 p K Y Z U (setC6 W gx (.int .i64 K.state) (.bool K.ordered) (.int .u64 K.link) (.int .u64 K.peer) (.string K.port) (.string K.pport)) :=
  ⟨h.i.setx K, h.z.other6 gx (by have := h.i.hy; have := h.hz; omega) _ _ _ _ _ _, h.u.other6 gx (by have := h.i.hy; have := h.hz; have := h.hu; omega) _ _ _ _ _ _, h.hz, h.hu⟩
theorem CtJ.sety (h : CtJ w gx gy gz gu c n0 n1 n2 n3 p X Y Z U W) (K : Ch) : CtJ w gx gy gz gu c n0 n1 n2 n3 p X K Z U (setC6 W gy (.int .i64 K.state) (.bool K.ordered) (.int .u64 K.link) (.int .u64 K.peer) (.string K.port) (.string K.pport)) :=
  ⟨h.i.sety K, h.z.other6 gy (by have := h.hz; omega) _ _ _ _ _ _, h.u.other6 gy (by have := h.hz; have := h.hu; omega) _ _ _ _ _ _, h.hz, h.hu⟩
theorem CtI.oth (h : CtI w gx gy c n0 n1 n2 n3 p X Y W) (g : Nat) (hg : gy < g) (u0 u1 u2 u3 u4 u5 : Value) : CtI w gx gy c n0 n1 n2 n3 p X Y (setC6 W g u0 u1 u2 u3 u4 u5) :=
  ⟨below_set6 h.bel g (by have := h.hx; have := h.hy; omega) _ _ _ _ _ _, h.c.other6 g (by have := h.hx; have := h.hy; omega) _ _ _ _ _ _, h.n.other6 g (by have := h.hx; have := h.hy; omega) _ _ _ _ _ _, h.p.other6 g (by have := h.hx; have := h.hy; omega) _ _ _ _ _ _, h.x.other6 g (by have := h.hy; omega) _ _ _ _ _ _, h.y.other6 g (by omega) _ _ _ _ _ _, h.hx, h.hy⟩
theorem CtJ.setz (h : CtJ w gx gy gz gu c n0 n1 n2 n3 p X Y Z U W) (K : Ch) : CtJ w gx gy gz gu c n0 n1 n2 n3 p X Y K U (setC6 W gz (.int .i64 K.state) (.bool K.ordered) (.int .u64 K.link) (.int .u64 K.peer) (.string K.port) (.string K.pport)) :=
  ⟨h.i.oth gz h.hz _ _ _ _ _ _, Blk.set6 h.z _ _ _ _ _ _, h.u.other6 gz (by have := h.hu; omega) _ _ _ _ _ _, h.hz, h.hu⟩
theorem CtJ.setu (h : CtJ w gx gy gz gu c n0 n1 n2 n3 p X Y Z U W) (K : Ch) : CtJ w gx gy gz gu c n0 n1 n2 n3 p X Y Z K (setC6 W gu (.int .i64 K.state) (.bool K.ordered) (.int .u64 K.link) (.int .u64 K.peer) (.string K.port) (.string K.pport)) :=
  ⟨h.i.oth gu (by have := h.hz; have := h.hu; omega) _ _ _ _ _ _, h.z.other6 gu (by have := h.hu; omega) _ _ _ _ _ _, Blk.set6 h.u _ _ _ _ _ _, h.hz, h.hu⟩
end
theorem ch_ne (c : Ch) (W : World) : (binOp .neq 57 (.agg #[.int .i64 c.state, .bool c.ordered, .int .u64 c.link, .int .u64 c.peer, .string c.port, .string c.pport]) (.agg #[.int .i64 c.state, .bool c.ordered, .int .u64 c.link, .int .u64 c.peer, .string c.port, .string c.pport])).run Tryd.prog W = .ok (.bool false) W := by
  have h := ch_eq c c W
  have e : c.eqB c = true := (Ch.eqB_iff c c).2 rfl
  rw [e] at h
  go_simp
theorem ch_guard (x y : Operand) (c d : Ch) (W : World) : (eqGuard .neq 57 x y (.agg #[.int .i64 c.state, .bool c.ordered, .int .u64 c.link, .int .u64 c.peer, .string c.port, .string c.pport]) (.agg #[.int .i64 d.state, .bool d.ordered, .int .u64 d.link, .int .u64 d.peer, .string d.port, .string d.pport])).run Tryd.prog W = .ok () W := by
  go_simp
def ctV6 (w : World) (gx gy : Nat) (c X : Ch) (n0 : Int) (p : Pk) (lv cm an s : ByteArray) (le te : Int) (i : Nat) (v : Value) : Prop := match i with
  | 0 => v = .bool true
  | 1 => v = .bool false
  | 2 => v = .bool false
  | 3 => v = .string lv
  | 4 => v = .string lv
  | 5 => v = .bool false
  | 6 => v = .bool false
  | 7 => v = .bool false
  | 8 => v = .int .i64 le
  | 9 => v = .int .i64 le
  | 10 => v = .bool false
  | 11 => v = .bool false
  | 12 => v = .bool false
  | 13 => v = .agg #[.int .i64 X.state, .bool X.ordered, .int .u64 X.link, .int .u64 X.peer, .string X.port, .string X.pport]
  | 14 => v = .agg #[.int .i64 X.state, .bool X.ordered, .int .u64 X.link, .int .u64 X.peer, .string X.port, .string X.pport]
  | 15 => v = .bool false
  | 16 => v = .bool false
  | 17 => v = .bool false
  | 18 => v = .int .i64 te
  | 19 => v = .int .i64 te
  | 20 => v = .bool false
  | 21 => v = .bool false
  | 22 => v = .bool false
  | 23 => v = .pointer (some ⟨w.heap.size, 1, none⟩)
  | 24 => v = .bool c.ordered
  | 25 => v = .pointer (some ⟨w.heap.size + 1, 0, none⟩)
  | 26 => v = .int .u64 n0
  | 27 => v = .pointer (some ⟨w.heap.size, 4, none⟩)
  | 28 => v = .string c.port
  | 29 => v = .string s
  | 30 => v = .agg #[.int .i64 1, .bool c.ordered, .int .u64 n0, .int .u64 0, .string c.port, .string s]
  | 31 => v = .pointer (some ⟨w.heap.size, 1, none⟩)
  | 32 => v = .bool c.ordered
  | 33 => v = .pointer (some ⟨w.heap.size + 1, 0, none⟩)
  | 34 => v = .int .u64 n0
  | 35 => v = .pointer (some ⟨w.heap.size, 4, none⟩)
  | 36 => v = .string c.port
  | 37 => v = .string s
  | 38 => v = .agg #[.int .i64 1, .bool c.ordered, .int .u64 n0, .int .u64 0, .string c.port, .string s]
  | 39 => v = .bool false
  | 40 => v = .bool false
  | 41 => v = .bool false
  | 42 => v = .agg #[.int .u64 p.seq, .int .u64 p.src, .int .u64 p.dst, .string p.data, .int .u64 p.timeout]
  | 43 => v = .string cm
  | 44 => v = .agg #[.int .u64 p.seq, .int .u64 p.src, .int .u64 p.dst, .string p.data, .int .u64 p.timeout]
  | 45 => v = .string cm
  | 46 => v = .bool false
  | 47 => v = .bool false
  | 48 => v = .bool false
  | 49 => v = .string s
  | 50 => v = .string an
  | 51 => v = .string s
  | 52 => v = .string an
  | 53 => v = .bool false
  | 54 => v = .bool false
  | _ => True
theorem load_b1 (g i : Nat) (W : World) (x : Bool) (h : W.cell? ⟨g, i, none⟩ = some (.bool x)) : (Instr.loadAt 4 (.pointer (some ⟨g, i, none⟩))).run Tryd.prog W = .ok (.bool x) W := by go_simp
theorem load_s1 (g i : Nat) (W : World) (x : ByteArray) (h : W.cell? ⟨g, i, none⟩ = some (.string x)) : (Instr.loadAt 9 (.pointer (some ⟨g, i, none⟩))).run Tryd.prog W = .ok (.string x) W := by go_simp
theorem load_u1 (g i : Nat) (W : World) (x : Int) (h : W.cell? ⟨g, i, none⟩ = some (.int .u64 x)) : (Instr.loadAt 22 (.pointer (some ⟨g, i, none⟩))).run Tryd.prog W = .ok (.int .u64 x) W := by go_simp
theorem cti_new {w W : World} {c : Ch} {n0 n1 n2 n3 : Int} {p : Pk} (hc : Blk W w.heap.size 57 c.cs) (hn : Blk W (w.heap.size + 1) 55 #[.int .u64 n0, .int .u64 n1, .int .u64 n2, .int .u64 n3]) (hp : Blk W (w.heap.size + 1 + 1) 24 p.cs) (hb : Below w.heap.size w W) {W' : World} (X Y : Ch) (hb' : Below (W.alloc (.cells X.cs 57)).heap.size (W.alloc (.cells X.cs 57)) W') :
    CtI w W.heap.size W'.heap.size c n0 n1 n2 n3 p X Y (W'.alloc (.cells Y.cs 57)) :=
  ⟨balloc (bstep (balloc hb _) hb') _, ((hc.alloc _).below hb').alloc _, ((hn.alloc _).below hb').alloc _, ((hp.alloc _).below hb').alloc _, ((Blk.new W _ _).below hb').alloc _, Blk.new W' _ _, hp.lt, by have := ((Blk.new W 57 X.cs).below hb').lt; omega⟩
theorem ctj_new {w W : World} {gx gy : Nat} {c : Ch} {n0 n1 n2 n3 : Int} {p : Pk} {X Y : Ch} (h : CtI w gx gy c n0 n1 n2 n3 p X Y W) (Z U : Ch) :
    CtJ w gx gy W.heap.size (W.heap.size + 1) c n0 n1 n2 n3 p X Y Z U ((W.alloc (.cells Z.cs 57)).alloc (.cells U.cs 57)) := by
  have h1 := Blk.new (W.alloc (.cells Z.cs 57)) 57 U.cs
  rw [show (W.alloc (.cells Z.cs 57)).heap.size = W.heap.size + 1 by simp] at h1
  exact ⟨h.next (balloc (balloc (Below.refl _ W) _) _), (Blk.new W _ _).alloc _, h1, h.y.lt, by omega⟩
set_option maxRecDepth 100000 in
set_option maxHeartbeats 16000000 in
theorem tells_walk (w : World) (G : GlobR w) (c : Ch) (s : ByteArray) (n0 n1 n2 n3 : Int) (p : Pk) (hc : c.ok) (hs : s.size ≤ 140737488351232) (hp : p.ok) :
    Calls Tryd.prog 12 #[c.v, .string s, .agg #[.int .u64 n0, .int .u64 n1, .int .u64 n2, .int .u64 n3], p.v] w fun e w' => e = .returned (.bool true) ∧ Below w.heap.size w w' := by
  have HG := Lib.hid G
  have HL1 : Hid (∀ W, Calls Tryd.prog 48 #[.agg #[.int .i64 c.state, .bool c.ordered, .int .u64 c.link, .int .u64 c.peer, .string c.port, .string c.pport]] W fun e w' => e = .returned (.tuple #[.string c.layV, .int .i64 c.layE]) ∧ Below W.heap.size W w') := Lib.hid (fun W => chlay_is c W hc)
  have HL2 : Hid (∀ W, Calls Tryd.prog 50 #[.agg #[.int .i64 c.state, .bool c.ordered, .int .u64 c.link, .int .u64 c.peer, .string c.port, .string c.pport]] W fun e w' => e = .returned (.tuple #[.string c.layV, .int .i64 c.layE]) ∧ Below W.heap.size W w') := Lib.hid (fun W => rlay_is c W hc)
  have HK1 : Hid (∀ W, Calls Tryd.prog 49 #[.string s] W fun e w' => e = .returned (.tuple #[.agg #[.int .i64 (takeC s).state, .bool (takeC s).ordered, .int .u64 (takeC s).link, .int .u64 (takeC s).peer, .string (takeC s).port, .string (takeC s).pport], .int .i64 (takeE s)]) ∧ Below W.heap.size W w') := Lib.hid (fun W => take_is s W (by omega))
  have HK2 : Hid (∀ W, Calls Tryd.prog 51 #[.string s] W fun e w' => e = .returned (.tuple #[.agg #[.int .i64 (takeC s).state, .bool (takeC s).ordered, .int .u64 (takeC s).link, .int .u64 (takeC s).peer, .string (takeC s).port, .string (takeC s).pport], .int .i64 (takeE s)]) ∧ Below W.heap.size W w') := Lib.hid (fun W => rtakec_is s W (by omega))
  have HCo : Hid (∀ W, GlobR W → Calls Tryd.prog 14 #[.agg #[.int .u64 p.seq, .int .u64 p.src, .int .u64 p.dst, .string p.data, .int .u64 p.timeout]] W fun e w' => e = .returned (.string p.comm) ∧ Below W.heap.size W w') := Lib.hid (fun W g => commitment_is p W g.g hp)
  have HRo : Hid (∀ W, GlobR W → Calls Tryd.prog 53 #[.agg #[.int .u64 p.seq, .int .u64 p.src, .int .u64 p.dst, .string p.data, .int .u64 p.timeout]] W fun e w' => e = .returned (.string p.comm) ∧ Below W.heap.size W w') := Lib.hid (fun W g => rcomm_is p W g hp)
  have HAn : Hid (∀ W, GlobR W → Calls Tryd.prog 15 #[.string s] W fun e w' => e = .returned (.string (ansB s)) ∧ Below W.heap.size W w') := Lib.hid (fun W g => answer_is s W g.g hs)
  have HRn : Hid (∀ W, GlobR W → Calls Tryd.prog 54 #[.string s] W fun e w' => e = .returned (.string (ansB s)) ∧ Below W.heap.size W w') := Lib.hid (fun W g => rans_is s W g hs)
  clear G hc hp
  generalize c.layV = lv at HL1 HL2
  generalize c.layE = le at HL1 HL2
  generalize takeC s = X at HK1 HK2
  generalize takeE s = te at HK1 HK2
  generalize p.comm = cm at HCo HRo
  generalize ansB s = an at HAn HRn
  show Calls Tryd.prog 12 #[.agg #[.int .i64 c.state, .bool c.ordered, .int .u64 c.link, .int .u64 c.peer, .string c.port, .string c.pport], .string s, .agg #[.int .u64 n0, .int .u64 n1, .int .u64 n2, .int .u64 n3], .agg #[.int .u64 p.seq, .int .u64 p.src, .int .u64 p.dst, .string p.data, .int .u64 p.timeout]] w _
  go_enter Tryd.func12, Tryd.ntmps12
  go_wp2_with fail
  have hc := ((Blk.new w 57 c.cs).alloc (.cells #[.int .u64 n0, .int .u64 n1, .int .u64 n2, .int .u64 n3] 55)).alloc (.cells p.cs 24)
  have hn := (Blk.new (w.alloc (.cells c.cs 57)) 55 #[.int .u64 n0, .int .u64 n1, .int .u64 n2, .int .u64 n3]).alloc (.cells p.cs 24)
  have hp := Blk.new ((w.alloc (.cells c.cs 57)).alloc (.cells #[.int .u64 n0, .int .u64 n1, .int .u64 n2, .int .u64 n3] 55)) 24 p.cs
  rw [show (w.alloc (.cells c.cs 57)).heap.size = w.heap.size + 1 by simp] at hn
  rw [show ((w.alloc (.cells c.cs 57)).alloc (.cells #[.int .u64 n0, .int .u64 n1, .int .u64 n2, .int .u64 n3] 55)).heap.size = w.heap.size + 1 + 1 by simp] at hp
  have hl := balloc (balloc (balloc (Below.refl _ w) (.cells c.cs 57)) (.cells #[.int .u64 n0, .int .u64 n1, .int .u64 n2, .int .u64 n3] 55)) (.cells p.cs 24)
  change Calls _ _ _ (((w.alloc (.cells c.cs 57)).alloc (.cells #[.int .u64 n0, .int .u64 n1, .int .u64 n2, .int .u64 n3] 55)).alloc (.cells p.cs 24)) _
  generalize ((w.alloc (.cells c.cs 57)).alloc (.cells #[.int .u64 n0, .int .u64 n1, .int .u64 n2, .int .u64 n3] 55)).alloc (.cells p.cs 24) = w1 at hc hn hp hl ⊢
  refine (awake_ok w1 (HG.out.below hl HG.out.four).g).mono ?_
  rintro e w2 ⟨rfl, hb2⟩
  have HB : Hid (Blk w2 w.heap.size 57 c.cs ∧ Blk w2 (w.heap.size + 1) 55 #[.int .u64 n0, .int .u64 n1, .int .u64 n2, .int .u64 n3] ∧ Blk w2 (w.heap.size + 1 + 1) 24 p.cs ∧ Below w.heap.size w w2) := Lib.hid ⟨hc.below hb2, hn.below hb2, hp.below hb2, bstep hl hb2⟩
  clear hc hn hp hl hb2
  have c0 : w2.cell? ⟨w.heap.size, 0, none⟩ = some (.int .i64 c.state) := HB.out.1.cell 0
  have c1 : w2.cell? ⟨w.heap.size, 1, none⟩ = some (.bool c.ordered) := HB.out.1.cell 1
  have c2 : w2.cell? ⟨w.heap.size, 2, none⟩ = some (.int .u64 c.link) := HB.out.1.cell 2
  have c3 : w2.cell? ⟨w.heap.size, 3, none⟩ = some (.int .u64 c.peer) := HB.out.1.cell 3
  have c4 : w2.cell? ⟨w.heap.size, 4, none⟩ = some (.string c.port) := HB.out.1.cell 4
  have c5 : w2.cell? ⟨w.heap.size, 5, none⟩ = some (.string c.pport) := HB.out.1.cell 5
  go_wp2_with fail
  refine (HL1.out w2).mono ?_
  rintro e w3 ⟨rfl, hb⟩
  have HB2 := Lib.hid (And.intro (HB.out.1.below hb) (And.intro (HB.out.2.1.below hb) (And.intro (HB.out.2.2.1.below hb) (bstep HB.out.2.2.2 hb))))
  clear hb HB HL1 c0 c1 c2 c3 c4 c5
  have HB := HB2
  clear HB2
  have c0 : w3.cell? ⟨w.heap.size, 0, none⟩ = some (.int .i64 c.state) := HB.out.1.cell 0
  have c1 : w3.cell? ⟨w.heap.size, 1, none⟩ = some (.bool c.ordered) := HB.out.1.cell 1
  have c2 : w3.cell? ⟨w.heap.size, 2, none⟩ = some (.int .u64 c.link) := HB.out.1.cell 2
  have c3 : w3.cell? ⟨w.heap.size, 3, none⟩ = some (.int .u64 c.peer) := HB.out.1.cell 3
  have c4 : w3.cell? ⟨w.heap.size, 4, none⟩ = some (.string c.port) := HB.out.1.cell 4
  have c5 : w3.cell? ⟨w.heap.size, 5, none⟩ = some (.string c.pport) := HB.out.1.cell 5
  go_wp2_with fail
  refine (HL2.out w3).mono ?_
  rintro e w4 ⟨rfl, hb⟩
  have HB2 := Lib.hid (And.intro (HB.out.1.below hb) (And.intro (HB.out.2.1.below hb) (And.intro (HB.out.2.2.1.below hb) (bstep HB.out.2.2.2 hb))))
  clear hb HB HL2 c0 c1 c2 c3 c4 c5
  have HB := HB2
  clear HB2
  go_wp2_with fail
  refine (HK1.out w4).mono ?_
  rintro e w5 ⟨rfl, hb⟩
  have HB2 := Lib.hid (And.intro (HB.out.1.below hb) (And.intro (HB.out.2.1.below hb) (And.intro (HB.out.2.2.1.below hb) (bstep HB.out.2.2.2 hb))))
  clear hb HB HK1
  have HB := HB2
  clear HB2
  go_wp2_with fail
  change Calls _ _ _ (w5.alloc (.cells X.cs 57)) _
  refine (HK2.out (w5.alloc (.cells X.cs 57))).mono ?_
  rintro e w6 ⟨rfl, hb⟩
  have HI : Hid (CtI w w5.heap.size w6.heap.size c n0 n1 n2 n3 p X X (w6.alloc (.cells X.cs 57))) := Lib.hid (cti_new HB.out.1 HB.out.2.1 HB.out.2.2.1 HB.out.2.2.2 X X hb)
  clear hb HB HK2
  go_upto_region 6 with fail
  change Code.wp _ _ _ _ (w6.alloc (.cells X.cs 57))
  generalize w6.alloc (.cells X.cs 57) = w7 at HI ⊢
  generalize w5.heap.size = gx at HI ⊢
  generalize w6.heap.size = gy at HI ⊢
  refine wp_abs fun a0 hA => ?_
  have h1 : a0.eval (.tmp 1) = .string s := by rw [hA]; rfl
  have h4 : a0.eval (.tmp 4) = .pointer (some ⟨w.heap.size, 0, none⟩) := by rw [hA]; rfl
  have h6 : a0.eval (.tmp 6) = .pointer (some ⟨w.heap.size + 1, 0, none⟩) := by rw [hA]; rfl
  have h7 : a0.eval (.tmp 7) = .pointer (some ⟨w.heap.size + 1 + 1, 0, none⟩) := by rw [hA]; rfl
  have h9 : a0.eval (.tmp 9) = .bool true := by rw [hA]; rfl
  have h10 : a0.eval (.tmp 10) = .string lv := by rw [hA]; rfl
  have h11 : a0.eval (.tmp 11) = .int .i64 le := by rw [hA]; rfl
  have h12 : a0.eval (.tmp 12) = .string lv := by rw [hA]; rfl
  have h13 : a0.eval (.tmp 13) = .int .i64 le := by rw [hA]; rfl
  have h14 : a0.eval (.tmp 14) = .pointer (some ⟨gx, 0, none⟩) := by rw [hA]; rfl
  have h15 : a0.eval (.tmp 15) = .int .i64 te := by rw [hA]; rfl
  have h16 : a0.eval (.tmp 16) = .pointer (some ⟨gy, 0, none⟩) := by rw [hA]; rfl
  have h17 : a0.eval (.tmp 17) = .int .i64 te := by rw [hA]; rfl
  have hz : a0.tmps.size = 255 := by rw [hA]; rfl
  refine wp_region_K [some 41, some 42, some 43, some 44, some 45, some 46, some 47, some 48, some 49, some 50, some 51, some 52, some 53, some 54, some 55, some 56, some 57, some 58, some 59, some 60, some 61, some 62, some 63, some 64, some 65, some 66, some 67, some 68, some 69, some 70, some 71, some 72, some 73, some 74, some 75, some 76, some 77, some 78, some 79, some 80, some 81, some 82, some 83, some 84, some 85, some 86, some 87, some 88, some 89, some 90, some 91, some 92, some 93, some 94, some 95] 255 (QJ (CtI w gx gy c n0 n1 n2 n3 p X X) (ctV6 w gx gy c X n0 p lv cm an s le te)) (by kernel_rfl) (by kernel_rfl) (by kernel_rfl) rfl (by kernel_rfl) hz ⟨fun i h => (by cases h), HI.out.next (Below.refl _ _).drew⟩ ?_ ⟨?_, ?_, ?_, ?_, ?_, ?_, ?_, ?_, ?_, ?_, ?_, ?_, ?_, ?_, ?_, ?_, ?_, ?_, ?_, ?_, ?_, ?_, ?_, ?_, ?_, ?_, ?_, ?_, ?_, ?_, ?_, ?_, ?_, ?_, ?_, ?_, ?_, ?_, ?_, ?_, ?_, ?_, ?_, ?_, ?_, ?_, ?_, ?_, ?_, ?_, ?_, ?_, ?_, ?_, ?_, trivial⟩
  · intro d u W hd hJ
    have hv := hJ.vals 54 (hd 54 (by decide))
    change u 54 = .bool false at hv
    have HI2 := Lib.hid hJ.inv
    rw [hA]
    simp only [putAll, Act.put, List.setIfInBounds_toArray, List.set_cons_zero, List.set_cons_succ]
    clear hJ hd h1 h4 h6 h7 h9 h10 h11 h12 h13 h14 h15 h16 h17 hz hA
    clear a0
    rw [hv]
    clear hv HI
    generalize W = W2 at HI2 ⊢
    obtain ⟨A1, hA1⟩ : ∃ z : Ch, z = ⟨2, c.ordered, n0, n2, c.port, s⟩ := ⟨_, rfl⟩
    obtain ⟨B1, hB1⟩ : ∃ z : Ch, z = ⟨1, c.ordered, n1, 0, s, c.port⟩ := ⟨_, rfl⟩
    have HT1 : Hid (∀ W, Calls Tryd.prog 31 #[.bool c.ordered, .int .u64 n0, .int .u64 n1, .string c.port, .string s, .int .u64 n2] W fun e w' => e = .returned (.tuple #[.agg #[.int .i64 A1.state, .bool A1.ordered, .int .u64 A1.link, .int .u64 A1.peer, .string A1.port, .string A1.pport], .agg #[.int .i64 B1.state, .bool B1.ordered, .int .u64 B1.link, .int .u64 B1.peer, .string B1.port, .string B1.pport]]) ∧ Below W.heap.size W w') := Lib.hid (fun W => by rw [hA1, hB1]; exact try_is _ _ _ _ _ _ W)
    have HT2 : Hid (∀ W, Calls Tryd.prog 55 #[.bool c.ordered, .int .u64 n0, .int .u64 n1, .string c.port, .string s, .int .u64 n2] W fun e w' => e = .returned (.tuple #[.agg #[.int .i64 A1.state, .bool A1.ordered, .int .u64 A1.link, .int .u64 A1.peer, .string A1.port, .string A1.pport], .agg #[.int .i64 B1.state, .bool B1.ordered, .int .u64 B1.link, .int .u64 B1.peer, .string B1.port, .string B1.pport]]) ∧ Below W.heap.size W w') := Lib.hid (fun W => by rw [hA1, hB1]; exact rtry_is _ _ _ _ _ _ W)
    clear hA1 hB1
    have c1 : W2.cell? ⟨w.heap.size, 1, none⟩ = some (.bool c.ordered) := HI2.out.c.cell 1
    have n0c : W2.cell? ⟨w.heap.size + 1, 0, none⟩ = some (.int .u64 n0) := HI2.out.n.cell 0
    have n1c : W2.cell? ⟨w.heap.size + 1, 1, none⟩ = some (.int .u64 n1) := HI2.out.n.cell 1
    have c4 : W2.cell? ⟨w.heap.size, 4, none⟩ = some (.string c.port) := HI2.out.c.cell 4
    have n2c : W2.cell? ⟨w.heap.size + 1, 2, none⟩ = some (.int .u64 n2) := HI2.out.n.cell 2
    go_wp2_with fail
    refine (HT1.out W2).mono ?_
    rintro e W3 ⟨rfl, hb⟩
    have HN := Lib.hid (HI2.out.next hb)
    clear hb HI2
    clear c1 n0c n1c c4 n2c
    have x0 : W3.cell? ⟨gx, 0, none⟩ = some (.int .i64 X.state) := HN.out.x.cell 0
    have x1 : W3.cell? ⟨gx, 1, none⟩ = some (.bool X.ordered) := HN.out.x.cell 1
    have x2 : W3.cell? ⟨gx, 2, none⟩ = some (.int .u64 X.link) := HN.out.x.cell 2
    have x3 : W3.cell? ⟨gx, 3, none⟩ = some (.int .u64 X.peer) := HN.out.x.cell 3
    have x4 : W3.cell? ⟨gx, 4, none⟩ = some (.string X.port) := HN.out.x.cell 4
    have x5 : W3.cell? ⟨gx, 5, none⟩ = some (.string X.pport) := HN.out.x.cell 5
    have fx0 := HN.out.x.frozen 0
    have fx1 := HN.out.x.frozen 1
    have fx2 := HN.out.x.frozen 2
    have fx3 := HN.out.x.frozen 3
    have fx4 := HN.out.x.frozen 4
    have fx5 := HN.out.x.frozen 5
    have y0 : W3.cell? ⟨gy, 0, none⟩ = some (.int .i64 X.state) := HN.out.y.cell 0
    have y1 : W3.cell? ⟨gy, 1, none⟩ = some (.bool X.ordered) := HN.out.y.cell 1
    have y2 : W3.cell? ⟨gy, 2, none⟩ = some (.int .u64 X.link) := HN.out.y.cell 2
    have y3 : W3.cell? ⟨gy, 3, none⟩ = some (.int .u64 X.peer) := HN.out.y.cell 3
    have y4 : W3.cell? ⟨gy, 4, none⟩ = some (.string X.port) := HN.out.y.cell 4
    have y5 : W3.cell? ⟨gy, 5, none⟩ = some (.string X.pport) := HN.out.y.cell 5
    have fy0 := HN.out.y.frozen 0
    have fy1 := HN.out.y.frozen 1
    have fy2 := HN.out.y.frozen 2
    have fy3 := HN.out.y.frozen 3
    have fy4 := HN.out.y.frozen 4
    have fy5 := HN.out.y.frozen 5
    have hne : gx ≠ gy := by have := HN.out.hy; omega
    have hne2 : gy ≠ gx := Ne.symm hne
    go_upto_region 9 with fail
    have HM := Lib.hid (((HN.out).setx A1).sety B1)
    simp only [setC6] at HM
    generalize ((((((((((((W3.setCell ⟨gx, 0, none⟩ (.int .i64 A1.state)).setCell ⟨gx, 1, none⟩ (.bool A1.ordered)).setCell ⟨gx, 2, none⟩ (.int .u64 A1.link)).setCell ⟨gx, 3, none⟩ (.int .u64 A1.peer)).setCell ⟨gx, 4, none⟩ (.string A1.port)).setCell ⟨gx, 5, none⟩ (.string A1.pport)).setCell ⟨gy, 0, none⟩ (.int .i64 B1.state)).setCell ⟨gy, 1, none⟩ (.bool B1.ordered)).setCell ⟨gy, 2, none⟩ (.int .u64 B1.link)).setCell ⟨gy, 3, none⟩ (.int .u64 B1.peer)).setCell ⟨gy, 4, none⟩ (.string B1.port)).setCell ⟨gy, 5, none⟩ (.string B1.pport)) = W4 at HM ⊢
    clear HN x0 x1 x2 x3 x4 x5 fx0 fx1 fx2 fx3 fx4 fx5 y0 y1 y2 y3 y4 y5 fy0 fy1 fy2 fy3 fy4 fy5 hne hne2
    have c1 : W4.cell? ⟨w.heap.size, 1, none⟩ = some (.bool c.ordered) := HM.out.c.cell 1
    have n0c : W4.cell? ⟨w.heap.size + 1, 0, none⟩ = some (.int .u64 n0) := HM.out.n.cell 0
    have n1c : W4.cell? ⟨w.heap.size + 1, 1, none⟩ = some (.int .u64 n1) := HM.out.n.cell 1
    have c4 : W4.cell? ⟨w.heap.size, 4, none⟩ = some (.string c.port) := HM.out.c.cell 4
    have n2c : W4.cell? ⟨w.heap.size + 1, 2, none⟩ = some (.int .u64 n2) := HM.out.n.cell 2
    go_wp2_with fail
    refine (HT2.out W4).mono ?_
    rintro e W5 ⟨rfl, hb⟩
    have HN := Lib.hid (HM.out.next hb)
    clear hb HM HT1 HT2 c1 n0c n1c c4 n2c
    go_upto_region 10 with fail
    have HM : Hid (CtJ w gx gy W5.heap.size (W5.heap.size + 1) c n0 n1 n2 n3 p A1 B1 A1 B1 ((W5.alloc (.cells #[.int .i64 A1.state, .bool A1.ordered, .int .u64 A1.link, .int .u64 A1.peer, .string A1.port, .string A1.pport] 57)).alloc (.cells #[.int .i64 B1.state, .bool B1.ordered, .int .u64 B1.link, .int .u64 B1.peer, .string B1.port, .string B1.pport] 57))) := Lib.hid (ctj_new HN.out A1 B1)
    clear HN
    change Code.wp _ _ _ _ ((W5.alloc (.cells #[.int .i64 A1.state, .bool A1.ordered, .int .u64 A1.link, .int .u64 A1.peer, .string A1.port, .string A1.pport] 57)).alloc (.cells #[.int .i64 B1.state, .bool B1.ordered, .int .u64 B1.link, .int .u64 B1.peer, .string B1.port, .string B1.pport] 57))
    generalize ((W5.alloc (.cells #[.int .i64 A1.state, .bool A1.ordered, .int .u64 A1.link, .int .u64 A1.peer, .string A1.port, .string A1.pport] 57)).alloc (.cells #[.int .i64 B1.state, .bool B1.ordered, .int .u64 B1.link, .int .u64 B1.peer, .string B1.port, .string B1.pport] 57)) = W6 at HM ⊢
    generalize hgz : W5.heap.size = gz at HM ⊢
    clear hgz
    obtain ⟨gu, hgu⟩ : ∃ z, gz + 1 = z := ⟨_, rfl⟩
    rw [hgu] at HM ⊢
    clear hgu
    have x0 : W6.cell? ⟨gx, 0, none⟩ = some (.int .i64 A1.state) := HM.out.i.x.cell 0
    have x1 : W6.cell? ⟨gx, 1, none⟩ = some (.bool A1.ordered) := HM.out.i.x.cell 1
    have x2 : W6.cell? ⟨gx, 2, none⟩ = some (.int .u64 A1.link) := HM.out.i.x.cell 2
    have x3 : W6.cell? ⟨gx, 3, none⟩ = some (.int .u64 A1.peer) := HM.out.i.x.cell 3
    have x4 : W6.cell? ⟨gx, 4, none⟩ = some (.string A1.port) := HM.out.i.x.cell 4
    have x5 : W6.cell? ⟨gx, 5, none⟩ = some (.string A1.pport) := HM.out.i.x.cell 5
    have z0 : W6.cell? ⟨gz, 0, none⟩ = some (.int .i64 A1.state) := HM.out.z.cell 0
    have z1 : W6.cell? ⟨gz, 1, none⟩ = some (.bool A1.ordered) := HM.out.z.cell 1
    have z2 : W6.cell? ⟨gz, 2, none⟩ = some (.int .u64 A1.link) := HM.out.z.cell 2
    have z3 : W6.cell? ⟨gz, 3, none⟩ = some (.int .u64 A1.peer) := HM.out.z.cell 3
    have z4 : W6.cell? ⟨gz, 4, none⟩ = some (.string A1.port) := HM.out.z.cell 4
    have z5 : W6.cell? ⟨gz, 5, none⟩ = some (.string A1.pport) := HM.out.z.cell 5
    have y0 : W6.cell? ⟨gy, 0, none⟩ = some (.int .i64 B1.state) := HM.out.i.y.cell 0
    have y1 : W6.cell? ⟨gy, 1, none⟩ = some (.bool B1.ordered) := HM.out.i.y.cell 1
    have y2 : W6.cell? ⟨gy, 2, none⟩ = some (.int .u64 B1.link) := HM.out.i.y.cell 2
    have y3 : W6.cell? ⟨gy, 3, none⟩ = some (.int .u64 B1.peer) := HM.out.i.y.cell 3
    have y4 : W6.cell? ⟨gy, 4, none⟩ = some (.string B1.port) := HM.out.i.y.cell 4
    have y5 : W6.cell? ⟨gy, 5, none⟩ = some (.string B1.pport) := HM.out.i.y.cell 5
    have u0 : W6.cell? ⟨gu, 0, none⟩ = some (.int .i64 B1.state) := HM.out.u.cell 0
    have u1 : W6.cell? ⟨gu, 1, none⟩ = some (.bool B1.ordered) := HM.out.u.cell 1
    have u2 : W6.cell? ⟨gu, 2, none⟩ = some (.int .u64 B1.link) := HM.out.u.cell 2
    have u3 : W6.cell? ⟨gu, 3, none⟩ = some (.int .u64 B1.peer) := HM.out.u.cell 3
    have u4 : W6.cell? ⟨gu, 4, none⟩ = some (.string B1.port) := HM.out.u.cell 4
    have u5 : W6.cell? ⟨gu, 5, none⟩ = some (.string B1.pport) := HM.out.u.cell 5
    have hq1 := fun W => ch_eq A1 A1 W
    rw [(Ch.eqB_iff A1 A1).2 rfl] at hq1
    have hq2 := fun W => ch_eq B1 B1 W
    rw [(Ch.eqB_iff B1 B1).2 rfl] at hq2
    go_upto_region 12 with fail
    clear x0 x1 x2 x3 x4 x5 z0 z1 z2 z3 z4 z5 y0 y1 y2 y3 y4 y5 u0 u1 u2 u3 u4 u5 hq1 hq2
    obtain ⟨A2, B2, e2, hp1, hp2⟩ := ack_pair n0 c n1 n2
    have HP1 := Lib.hid hp1
    have HP2 := Lib.hid hp2
    clear hp1 hp2
    have n0c : W6.cell? ⟨w.heap.size + 1, 0, none⟩ = some (.int .u64 n0) := HM.out.i.n.cell 0
    have c0 : W6.cell? ⟨w.heap.size, 0, none⟩ = some (.int .i64 c.state) := HM.out.i.c.cell 0
    have c1 : W6.cell? ⟨w.heap.size, 1, none⟩ = some (.bool c.ordered) := HM.out.i.c.cell 1
    have c2 : W6.cell? ⟨w.heap.size, 2, none⟩ = some (.int .u64 c.link) := HM.out.i.c.cell 2
    have c3 : W6.cell? ⟨w.heap.size, 3, none⟩ = some (.int .u64 c.peer) := HM.out.i.c.cell 3
    have c4 : W6.cell? ⟨w.heap.size, 4, none⟩ = some (.string c.port) := HM.out.i.c.cell 4
    have c5 : W6.cell? ⟨w.heap.size, 5, none⟩ = some (.string c.pport) := HM.out.i.c.cell 5
    have n1c : W6.cell? ⟨w.heap.size + 1, 1, none⟩ = some (.int .u64 n1) := HM.out.i.n.cell 1
    have n2c : W6.cell? ⟨w.heap.size + 1, 2, none⟩ = some (.int .u64 n2) := HM.out.i.n.cell 2
    go_wp2_with fail
    refine (HP1.out W6).mono ?_
    rintro e W7 ⟨rfl, hb⟩
    have HN := Lib.hid (HM.out.next hb)
    clear hb HM
    clear n0c c0 c1 c2 c3 c4 c5 n1c n2c
    have x0 : W7.cell? ⟨gx, 0, none⟩ = some (.int .i64 A1.state) := HN.out.i.x.cell 0
    have x1 : W7.cell? ⟨gx, 1, none⟩ = some (.bool A1.ordered) := HN.out.i.x.cell 1
    have x2 : W7.cell? ⟨gx, 2, none⟩ = some (.int .u64 A1.link) := HN.out.i.x.cell 2
    have x3 : W7.cell? ⟨gx, 3, none⟩ = some (.int .u64 A1.peer) := HN.out.i.x.cell 3
    have x4 : W7.cell? ⟨gx, 4, none⟩ = some (.string A1.port) := HN.out.i.x.cell 4
    have x5 : W7.cell? ⟨gx, 5, none⟩ = some (.string A1.pport) := HN.out.i.x.cell 5
    have fx0 := HN.out.i.x.frozen 0
    have fx1 := HN.out.i.x.frozen 1
    have fx2 := HN.out.i.x.frozen 2
    have fx3 := HN.out.i.x.frozen 3
    have fx4 := HN.out.i.x.frozen 4
    have fx5 := HN.out.i.x.frozen 5
    have y0 : W7.cell? ⟨gy, 0, none⟩ = some (.int .i64 B1.state) := HN.out.i.y.cell 0
    have y1 : W7.cell? ⟨gy, 1, none⟩ = some (.bool B1.ordered) := HN.out.i.y.cell 1
    have y2 : W7.cell? ⟨gy, 2, none⟩ = some (.int .u64 B1.link) := HN.out.i.y.cell 2
    have y3 : W7.cell? ⟨gy, 3, none⟩ = some (.int .u64 B1.peer) := HN.out.i.y.cell 3
    have y4 : W7.cell? ⟨gy, 4, none⟩ = some (.string B1.port) := HN.out.i.y.cell 4
    have y5 : W7.cell? ⟨gy, 5, none⟩ = some (.string B1.pport) := HN.out.i.y.cell 5
    have fy0 := HN.out.i.y.frozen 0
    have fy1 := HN.out.i.y.frozen 1
    have fy2 := HN.out.i.y.frozen 2
    have fy3 := HN.out.i.y.frozen 3
    have fy4 := HN.out.i.y.frozen 4
    have fy5 := HN.out.i.y.frozen 5
    have hne : gx ≠ gy := by have := HN.out.i.hy; omega
    have hne2 : gy ≠ gx := Ne.symm hne
    go_upto_region 13 with fail
    have HM := Lib.hid (((HN.out).setx A2).sety B2)
    simp only [setC6] at HM
    generalize ((((((((((((W7.setCell ⟨gx, 0, none⟩ (.int .i64 A2.state)).setCell ⟨gx, 1, none⟩ (.bool A2.ordered)).setCell ⟨gx, 2, none⟩ (.int .u64 A2.link)).setCell ⟨gx, 3, none⟩ (.int .u64 A2.peer)).setCell ⟨gx, 4, none⟩ (.string A2.port)).setCell ⟨gx, 5, none⟩ (.string A2.pport)).setCell ⟨gy, 0, none⟩ (.int .i64 B2.state)).setCell ⟨gy, 1, none⟩ (.bool B2.ordered)).setCell ⟨gy, 2, none⟩ (.int .u64 B2.link)).setCell ⟨gy, 3, none⟩ (.int .u64 B2.peer)).setCell ⟨gy, 4, none⟩ (.string B2.port)).setCell ⟨gy, 5, none⟩ (.string B2.pport)) = W8 at HM ⊢
    clear HN x0 x1 x2 x3 x4 x5 fx0 fx1 fx2 fx3 fx4 fx5 y0 y1 y2 y3 y4 y5 fy0 fy1 fy2 fy3 fy4 fy5 hne hne2
    have n0c : W8.cell? ⟨w.heap.size + 1, 0, none⟩ = some (.int .u64 n0) := HM.out.i.n.cell 0
    have c0 : W8.cell? ⟨w.heap.size, 0, none⟩ = some (.int .i64 c.state) := HM.out.i.c.cell 0
    have c1 : W8.cell? ⟨w.heap.size, 1, none⟩ = some (.bool c.ordered) := HM.out.i.c.cell 1
    have c2 : W8.cell? ⟨w.heap.size, 2, none⟩ = some (.int .u64 c.link) := HM.out.i.c.cell 2
    have c3 : W8.cell? ⟨w.heap.size, 3, none⟩ = some (.int .u64 c.peer) := HM.out.i.c.cell 3
    have c4 : W8.cell? ⟨w.heap.size, 4, none⟩ = some (.string c.port) := HM.out.i.c.cell 4
    have c5 : W8.cell? ⟨w.heap.size, 5, none⟩ = some (.string c.pport) := HM.out.i.c.cell 5
    have n1c : W8.cell? ⟨w.heap.size + 1, 1, none⟩ = some (.int .u64 n1) := HM.out.i.n.cell 1
    have n2c : W8.cell? ⟨w.heap.size + 1, 2, none⟩ = some (.int .u64 n2) := HM.out.i.n.cell 2
    go_wp2_with fail
    refine (HP2.out W8).mono ?_
    rintro e W9 ⟨rfl, hb⟩
    have HN := Lib.hid (HM.out.next hb)
    clear hb HM
    clear n0c c0 c1 c2 c3 c4 c5 n1c n2c
    have z0 : W9.cell? ⟨gz, 0, none⟩ = some (.int .i64 A1.state) := HN.out.z.cell 0
    have z1 : W9.cell? ⟨gz, 1, none⟩ = some (.bool A1.ordered) := HN.out.z.cell 1
    have z2 : W9.cell? ⟨gz, 2, none⟩ = some (.int .u64 A1.link) := HN.out.z.cell 2
    have z3 : W9.cell? ⟨gz, 3, none⟩ = some (.int .u64 A1.peer) := HN.out.z.cell 3
    have z4 : W9.cell? ⟨gz, 4, none⟩ = some (.string A1.port) := HN.out.z.cell 4
    have z5 : W9.cell? ⟨gz, 5, none⟩ = some (.string A1.pport) := HN.out.z.cell 5
    have fz0 := HN.out.z.frozen 0
    have fz1 := HN.out.z.frozen 1
    have fz2 := HN.out.z.frozen 2
    have fz3 := HN.out.z.frozen 3
    have fz4 := HN.out.z.frozen 4
    have fz5 := HN.out.z.frozen 5
    have u0 : W9.cell? ⟨gu, 0, none⟩ = some (.int .i64 B1.state) := HN.out.u.cell 0
    have u1 : W9.cell? ⟨gu, 1, none⟩ = some (.bool B1.ordered) := HN.out.u.cell 1
    have u2 : W9.cell? ⟨gu, 2, none⟩ = some (.int .u64 B1.link) := HN.out.u.cell 2
    have u3 : W9.cell? ⟨gu, 3, none⟩ = some (.int .u64 B1.peer) := HN.out.u.cell 3
    have u4 : W9.cell? ⟨gu, 4, none⟩ = some (.string B1.port) := HN.out.u.cell 4
    have u5 : W9.cell? ⟨gu, 5, none⟩ = some (.string B1.pport) := HN.out.u.cell 5
    have fu0 := HN.out.u.frozen 0
    have fu1 := HN.out.u.frozen 1
    have fu2 := HN.out.u.frozen 2
    have fu3 := HN.out.u.frozen 3
    have fu4 := HN.out.u.frozen 4
    have fu5 := HN.out.u.frozen 5
    have hne : gz ≠ gu := by have := HN.out.hu; omega
    have hne2 : gu ≠ gz := Ne.symm hne
    go_upto_region 14 with fail
    have HM := Lib.hid (((HN.out).setz A2).setu B2)
    simp only [setC6] at HM
    generalize ((((((((((((W9.setCell ⟨gz, 0, none⟩ (.int .i64 A2.state)).setCell ⟨gz, 1, none⟩ (.bool A2.ordered)).setCell ⟨gz, 2, none⟩ (.int .u64 A2.link)).setCell ⟨gz, 3, none⟩ (.int .u64 A2.peer)).setCell ⟨gz, 4, none⟩ (.string A2.port)).setCell ⟨gz, 5, none⟩ (.string A2.pport)).setCell ⟨gu, 0, none⟩ (.int .i64 B2.state)).setCell ⟨gu, 1, none⟩ (.bool B2.ordered)).setCell ⟨gu, 2, none⟩ (.int .u64 B2.link)).setCell ⟨gu, 3, none⟩ (.int .u64 B2.peer)).setCell ⟨gu, 4, none⟩ (.string B2.port)).setCell ⟨gu, 5, none⟩ (.string B2.pport)) = W10 at HM ⊢
    clear HN z0 z1 z2 z3 z4 z5 fz0 fz1 fz2 fz3 fz4 fz5 u0 u1 u2 u3 u4 u5 fu0 fu1 fu2 fu3 fu4 fu5 hne hne2
    have x0 : W10.cell? ⟨gx, 0, none⟩ = some (.int .i64 A2.state) := HM.out.i.x.cell 0
    have x1 : W10.cell? ⟨gx, 1, none⟩ = some (.bool A2.ordered) := HM.out.i.x.cell 1
    have x2 : W10.cell? ⟨gx, 2, none⟩ = some (.int .u64 A2.link) := HM.out.i.x.cell 2
    have x3 : W10.cell? ⟨gx, 3, none⟩ = some (.int .u64 A2.peer) := HM.out.i.x.cell 3
    have x4 : W10.cell? ⟨gx, 4, none⟩ = some (.string A2.port) := HM.out.i.x.cell 4
    have x5 : W10.cell? ⟨gx, 5, none⟩ = some (.string A2.pport) := HM.out.i.x.cell 5
    have z0 : W10.cell? ⟨gz, 0, none⟩ = some (.int .i64 A2.state) := HM.out.z.cell 0
    have z1 : W10.cell? ⟨gz, 1, none⟩ = some (.bool A2.ordered) := HM.out.z.cell 1
    have z2 : W10.cell? ⟨gz, 2, none⟩ = some (.int .u64 A2.link) := HM.out.z.cell 2
    have z3 : W10.cell? ⟨gz, 3, none⟩ = some (.int .u64 A2.peer) := HM.out.z.cell 3
    have z4 : W10.cell? ⟨gz, 4, none⟩ = some (.string A2.port) := HM.out.z.cell 4
    have z5 : W10.cell? ⟨gz, 5, none⟩ = some (.string A2.pport) := HM.out.z.cell 5
    have y0 : W10.cell? ⟨gy, 0, none⟩ = some (.int .i64 B2.state) := HM.out.i.y.cell 0
    have y1 : W10.cell? ⟨gy, 1, none⟩ = some (.bool B2.ordered) := HM.out.i.y.cell 1
    have y2 : W10.cell? ⟨gy, 2, none⟩ = some (.int .u64 B2.link) := HM.out.i.y.cell 2
    have y3 : W10.cell? ⟨gy, 3, none⟩ = some (.int .u64 B2.peer) := HM.out.i.y.cell 3
    have y4 : W10.cell? ⟨gy, 4, none⟩ = some (.string B2.port) := HM.out.i.y.cell 4
    have y5 : W10.cell? ⟨gy, 5, none⟩ = some (.string B2.pport) := HM.out.i.y.cell 5
    have u0 : W10.cell? ⟨gu, 0, none⟩ = some (.int .i64 B2.state) := HM.out.u.cell 0
    have u1 : W10.cell? ⟨gu, 1, none⟩ = some (.bool B2.ordered) := HM.out.u.cell 1
    have u2 : W10.cell? ⟨gu, 2, none⟩ = some (.int .u64 B2.link) := HM.out.u.cell 2
    have u3 : W10.cell? ⟨gu, 3, none⟩ = some (.int .u64 B2.peer) := HM.out.u.cell 3
    have u4 : W10.cell? ⟨gu, 4, none⟩ = some (.string B2.port) := HM.out.u.cell 4
    have u5 : W10.cell? ⟨gu, 5, none⟩ = some (.string B2.pport) := HM.out.u.cell 5
    have hq1 := fun W => ch_eq A2 A2 W
    rw [(Ch.eqB_iff A2 A2).2 rfl] at hq1
    have hq2 := fun W => ch_eq B2 B2 W
    rw [(Ch.eqB_iff B2 B2).2 rfl] at hq2
    go_upto_region 16 with fail
    clear x0 x1 x2 x3 x4 x5 z0 z1 z2 z3 z4 z5 y0 y1 y2 y3 y4 y5 u0 u1 u2 u3 u4 u5 hq1 hq2
    clear HP1 HP2
    obtain ⟨A3, B3, e3, hp1, hp2⟩ := confirm_pair n0 c n1
    have HP1 := Lib.hid hp1
    have HP2 := Lib.hid hp2
    clear hp1 hp2
    have n0c : W10.cell? ⟨w.heap.size + 1, 0, none⟩ = some (.int .u64 n0) := HM.out.i.n.cell 0
    have c0 : W10.cell? ⟨w.heap.size, 0, none⟩ = some (.int .i64 c.state) := HM.out.i.c.cell 0
    have c1 : W10.cell? ⟨w.heap.size, 1, none⟩ = some (.bool c.ordered) := HM.out.i.c.cell 1
    have c2 : W10.cell? ⟨w.heap.size, 2, none⟩ = some (.int .u64 c.link) := HM.out.i.c.cell 2
    have c3 : W10.cell? ⟨w.heap.size, 3, none⟩ = some (.int .u64 c.peer) := HM.out.i.c.cell 3
    have c4 : W10.cell? ⟨w.heap.size, 4, none⟩ = some (.string c.port) := HM.out.i.c.cell 4
    have c5 : W10.cell? ⟨w.heap.size, 5, none⟩ = some (.string c.pport) := HM.out.i.c.cell 5
    have n1c : W10.cell? ⟨w.heap.size + 1, 1, none⟩ = some (.int .u64 n1) := HM.out.i.n.cell 1
    go_wp2_with fail
    refine (HP1.out W10).mono ?_
    rintro e W11 ⟨rfl, hb⟩
    have HN := Lib.hid (HM.out.next hb)
    clear hb HM
    clear n0c c0 c1 c2 c3 c4 c5 n1c
    have x0 : W11.cell? ⟨gx, 0, none⟩ = some (.int .i64 A2.state) := HN.out.i.x.cell 0
    have x1 : W11.cell? ⟨gx, 1, none⟩ = some (.bool A2.ordered) := HN.out.i.x.cell 1
    have x2 : W11.cell? ⟨gx, 2, none⟩ = some (.int .u64 A2.link) := HN.out.i.x.cell 2
    have x3 : W11.cell? ⟨gx, 3, none⟩ = some (.int .u64 A2.peer) := HN.out.i.x.cell 3
    have x4 : W11.cell? ⟨gx, 4, none⟩ = some (.string A2.port) := HN.out.i.x.cell 4
    have x5 : W11.cell? ⟨gx, 5, none⟩ = some (.string A2.pport) := HN.out.i.x.cell 5
    have fx0 := HN.out.i.x.frozen 0
    have fx1 := HN.out.i.x.frozen 1
    have fx2 := HN.out.i.x.frozen 2
    have fx3 := HN.out.i.x.frozen 3
    have fx4 := HN.out.i.x.frozen 4
    have fx5 := HN.out.i.x.frozen 5
    have y0 : W11.cell? ⟨gy, 0, none⟩ = some (.int .i64 B2.state) := HN.out.i.y.cell 0
    have y1 : W11.cell? ⟨gy, 1, none⟩ = some (.bool B2.ordered) := HN.out.i.y.cell 1
    have y2 : W11.cell? ⟨gy, 2, none⟩ = some (.int .u64 B2.link) := HN.out.i.y.cell 2
    have y3 : W11.cell? ⟨gy, 3, none⟩ = some (.int .u64 B2.peer) := HN.out.i.y.cell 3
    have y4 : W11.cell? ⟨gy, 4, none⟩ = some (.string B2.port) := HN.out.i.y.cell 4
    have y5 : W11.cell? ⟨gy, 5, none⟩ = some (.string B2.pport) := HN.out.i.y.cell 5
    have fy0 := HN.out.i.y.frozen 0
    have fy1 := HN.out.i.y.frozen 1
    have fy2 := HN.out.i.y.frozen 2
    have fy3 := HN.out.i.y.frozen 3
    have fy4 := HN.out.i.y.frozen 4
    have fy5 := HN.out.i.y.frozen 5
    have hne : gx ≠ gy := by have := HN.out.i.hy; omega
    have hne2 : gy ≠ gx := Ne.symm hne
    go_upto_region 17 with fail
    have HM := Lib.hid (((HN.out).setx A3).sety B3)
    simp only [setC6] at HM
    generalize ((((((((((((W11.setCell ⟨gx, 0, none⟩ (.int .i64 A3.state)).setCell ⟨gx, 1, none⟩ (.bool A3.ordered)).setCell ⟨gx, 2, none⟩ (.int .u64 A3.link)).setCell ⟨gx, 3, none⟩ (.int .u64 A3.peer)).setCell ⟨gx, 4, none⟩ (.string A3.port)).setCell ⟨gx, 5, none⟩ (.string A3.pport)).setCell ⟨gy, 0, none⟩ (.int .i64 B3.state)).setCell ⟨gy, 1, none⟩ (.bool B3.ordered)).setCell ⟨gy, 2, none⟩ (.int .u64 B3.link)).setCell ⟨gy, 3, none⟩ (.int .u64 B3.peer)).setCell ⟨gy, 4, none⟩ (.string B3.port)).setCell ⟨gy, 5, none⟩ (.string B3.pport)) = W12 at HM ⊢
    clear HN x0 x1 x2 x3 x4 x5 fx0 fx1 fx2 fx3 fx4 fx5 y0 y1 y2 y3 y4 y5 fy0 fy1 fy2 fy3 fy4 fy5 hne hne2
    have n0c : W12.cell? ⟨w.heap.size + 1, 0, none⟩ = some (.int .u64 n0) := HM.out.i.n.cell 0
    have c0 : W12.cell? ⟨w.heap.size, 0, none⟩ = some (.int .i64 c.state) := HM.out.i.c.cell 0
    have c1 : W12.cell? ⟨w.heap.size, 1, none⟩ = some (.bool c.ordered) := HM.out.i.c.cell 1
    have c2 : W12.cell? ⟨w.heap.size, 2, none⟩ = some (.int .u64 c.link) := HM.out.i.c.cell 2
    have c3 : W12.cell? ⟨w.heap.size, 3, none⟩ = some (.int .u64 c.peer) := HM.out.i.c.cell 3
    have c4 : W12.cell? ⟨w.heap.size, 4, none⟩ = some (.string c.port) := HM.out.i.c.cell 4
    have c5 : W12.cell? ⟨w.heap.size, 5, none⟩ = some (.string c.pport) := HM.out.i.c.cell 5
    have n1c : W12.cell? ⟨w.heap.size + 1, 1, none⟩ = some (.int .u64 n1) := HM.out.i.n.cell 1
    go_wp2_with fail
    refine (HP2.out W12).mono ?_
    rintro e W13 ⟨rfl, hb⟩
    have HN := Lib.hid (HM.out.next hb)
    clear hb HM
    clear n0c c0 c1 c2 c3 c4 c5 n1c
    have z0 : W13.cell? ⟨gz, 0, none⟩ = some (.int .i64 A2.state) := HN.out.z.cell 0
    have z1 : W13.cell? ⟨gz, 1, none⟩ = some (.bool A2.ordered) := HN.out.z.cell 1
    have z2 : W13.cell? ⟨gz, 2, none⟩ = some (.int .u64 A2.link) := HN.out.z.cell 2
    have z3 : W13.cell? ⟨gz, 3, none⟩ = some (.int .u64 A2.peer) := HN.out.z.cell 3
    have z4 : W13.cell? ⟨gz, 4, none⟩ = some (.string A2.port) := HN.out.z.cell 4
    have z5 : W13.cell? ⟨gz, 5, none⟩ = some (.string A2.pport) := HN.out.z.cell 5
    have fz0 := HN.out.z.frozen 0
    have fz1 := HN.out.z.frozen 1
    have fz2 := HN.out.z.frozen 2
    have fz3 := HN.out.z.frozen 3
    have fz4 := HN.out.z.frozen 4
    have fz5 := HN.out.z.frozen 5
    have u0 : W13.cell? ⟨gu, 0, none⟩ = some (.int .i64 B2.state) := HN.out.u.cell 0
    have u1 : W13.cell? ⟨gu, 1, none⟩ = some (.bool B2.ordered) := HN.out.u.cell 1
    have u2 : W13.cell? ⟨gu, 2, none⟩ = some (.int .u64 B2.link) := HN.out.u.cell 2
    have u3 : W13.cell? ⟨gu, 3, none⟩ = some (.int .u64 B2.peer) := HN.out.u.cell 3
    have u4 : W13.cell? ⟨gu, 4, none⟩ = some (.string B2.port) := HN.out.u.cell 4
    have u5 : W13.cell? ⟨gu, 5, none⟩ = some (.string B2.pport) := HN.out.u.cell 5
    have fu0 := HN.out.u.frozen 0
    have fu1 := HN.out.u.frozen 1
    have fu2 := HN.out.u.frozen 2
    have fu3 := HN.out.u.frozen 3
    have fu4 := HN.out.u.frozen 4
    have fu5 := HN.out.u.frozen 5
    have hne : gz ≠ gu := by have := HN.out.hu; omega
    have hne2 : gu ≠ gz := Ne.symm hne
    go_upto_region 18 with fail
    have HM := Lib.hid (((HN.out).setz A3).setu B3)
    simp only [setC6] at HM
    generalize ((((((((((((W13.setCell ⟨gz, 0, none⟩ (.int .i64 A3.state)).setCell ⟨gz, 1, none⟩ (.bool A3.ordered)).setCell ⟨gz, 2, none⟩ (.int .u64 A3.link)).setCell ⟨gz, 3, none⟩ (.int .u64 A3.peer)).setCell ⟨gz, 4, none⟩ (.string A3.port)).setCell ⟨gz, 5, none⟩ (.string A3.pport)).setCell ⟨gu, 0, none⟩ (.int .i64 B3.state)).setCell ⟨gu, 1, none⟩ (.bool B3.ordered)).setCell ⟨gu, 2, none⟩ (.int .u64 B3.link)).setCell ⟨gu, 3, none⟩ (.int .u64 B3.peer)).setCell ⟨gu, 4, none⟩ (.string B3.port)).setCell ⟨gu, 5, none⟩ (.string B3.pport)) = W14 at HM ⊢
    clear HN z0 z1 z2 z3 z4 z5 fz0 fz1 fz2 fz3 fz4 fz5 u0 u1 u2 u3 u4 u5 fu0 fu1 fu2 fu3 fu4 fu5 hne hne2
    have x0 : W14.cell? ⟨gx, 0, none⟩ = some (.int .i64 A3.state) := HM.out.i.x.cell 0
    have x1 : W14.cell? ⟨gx, 1, none⟩ = some (.bool A3.ordered) := HM.out.i.x.cell 1
    have x2 : W14.cell? ⟨gx, 2, none⟩ = some (.int .u64 A3.link) := HM.out.i.x.cell 2
    have x3 : W14.cell? ⟨gx, 3, none⟩ = some (.int .u64 A3.peer) := HM.out.i.x.cell 3
    have x4 : W14.cell? ⟨gx, 4, none⟩ = some (.string A3.port) := HM.out.i.x.cell 4
    have x5 : W14.cell? ⟨gx, 5, none⟩ = some (.string A3.pport) := HM.out.i.x.cell 5
    have z0 : W14.cell? ⟨gz, 0, none⟩ = some (.int .i64 A3.state) := HM.out.z.cell 0
    have z1 : W14.cell? ⟨gz, 1, none⟩ = some (.bool A3.ordered) := HM.out.z.cell 1
    have z2 : W14.cell? ⟨gz, 2, none⟩ = some (.int .u64 A3.link) := HM.out.z.cell 2
    have z3 : W14.cell? ⟨gz, 3, none⟩ = some (.int .u64 A3.peer) := HM.out.z.cell 3
    have z4 : W14.cell? ⟨gz, 4, none⟩ = some (.string A3.port) := HM.out.z.cell 4
    have z5 : W14.cell? ⟨gz, 5, none⟩ = some (.string A3.pport) := HM.out.z.cell 5
    have y0 : W14.cell? ⟨gy, 0, none⟩ = some (.int .i64 B3.state) := HM.out.i.y.cell 0
    have y1 : W14.cell? ⟨gy, 1, none⟩ = some (.bool B3.ordered) := HM.out.i.y.cell 1
    have y2 : W14.cell? ⟨gy, 2, none⟩ = some (.int .u64 B3.link) := HM.out.i.y.cell 2
    have y3 : W14.cell? ⟨gy, 3, none⟩ = some (.int .u64 B3.peer) := HM.out.i.y.cell 3
    have y4 : W14.cell? ⟨gy, 4, none⟩ = some (.string B3.port) := HM.out.i.y.cell 4
    have y5 : W14.cell? ⟨gy, 5, none⟩ = some (.string B3.pport) := HM.out.i.y.cell 5
    have u0 : W14.cell? ⟨gu, 0, none⟩ = some (.int .i64 B3.state) := HM.out.u.cell 0
    have u1 : W14.cell? ⟨gu, 1, none⟩ = some (.bool B3.ordered) := HM.out.u.cell 1
    have u2 : W14.cell? ⟨gu, 2, none⟩ = some (.int .u64 B3.link) := HM.out.u.cell 2
    have u3 : W14.cell? ⟨gu, 3, none⟩ = some (.int .u64 B3.peer) := HM.out.u.cell 3
    have u4 : W14.cell? ⟨gu, 4, none⟩ = some (.string B3.port) := HM.out.u.cell 4
    have u5 : W14.cell? ⟨gu, 5, none⟩ = some (.string B3.pport) := HM.out.u.cell 5
    have hq1 := fun W => ch_eq A3 A3 W
    rw [(Ch.eqB_iff A3 A3).2 rfl] at hq1
    have hq2 := fun W => ch_eq B3 B3 W
    rw [(Ch.eqB_iff B3 B3).2 rfl] at hq2
    go_upto_region 20 with fail
    clear x0 x1 x2 x3 x4 x5 z0 z1 z2 z3 z4 z5 y0 y1 y2 y3 y4 y5 u0 u1 u2 u3 u4 u5 hq1 hq2
    clear HP1 HP2
    obtain ⟨A4, B4, e4, hp1, hp2⟩ := close_pair c
    have HP1 := Lib.hid hp1
    have HP2 := Lib.hid hp2
    clear hp1 hp2
    have c0 : W14.cell? ⟨w.heap.size, 0, none⟩ = some (.int .i64 c.state) := HM.out.i.c.cell 0
    have c1 : W14.cell? ⟨w.heap.size, 1, none⟩ = some (.bool c.ordered) := HM.out.i.c.cell 1
    have c2 : W14.cell? ⟨w.heap.size, 2, none⟩ = some (.int .u64 c.link) := HM.out.i.c.cell 2
    have c3 : W14.cell? ⟨w.heap.size, 3, none⟩ = some (.int .u64 c.peer) := HM.out.i.c.cell 3
    have c4 : W14.cell? ⟨w.heap.size, 4, none⟩ = some (.string c.port) := HM.out.i.c.cell 4
    have c5 : W14.cell? ⟨w.heap.size, 5, none⟩ = some (.string c.pport) := HM.out.i.c.cell 5
    go_wp2_with fail
    refine (HP1.out W14).mono ?_
    rintro e W15 ⟨rfl, hb⟩
    have HN := Lib.hid (HM.out.next hb)
    clear hb HM
    clear c0 c1 c2 c3 c4 c5
    have x0 : W15.cell? ⟨gx, 0, none⟩ = some (.int .i64 A3.state) := HN.out.i.x.cell 0
    have x1 : W15.cell? ⟨gx, 1, none⟩ = some (.bool A3.ordered) := HN.out.i.x.cell 1
    have x2 : W15.cell? ⟨gx, 2, none⟩ = some (.int .u64 A3.link) := HN.out.i.x.cell 2
    have x3 : W15.cell? ⟨gx, 3, none⟩ = some (.int .u64 A3.peer) := HN.out.i.x.cell 3
    have x4 : W15.cell? ⟨gx, 4, none⟩ = some (.string A3.port) := HN.out.i.x.cell 4
    have x5 : W15.cell? ⟨gx, 5, none⟩ = some (.string A3.pport) := HN.out.i.x.cell 5
    have fx0 := HN.out.i.x.frozen 0
    have fx1 := HN.out.i.x.frozen 1
    have fx2 := HN.out.i.x.frozen 2
    have fx3 := HN.out.i.x.frozen 3
    have fx4 := HN.out.i.x.frozen 4
    have fx5 := HN.out.i.x.frozen 5
    go_upto_region 21 with fail
    have HM := Lib.hid ((HN.out).setx A4)
    simp only [setC6] at HM
    generalize ((((((W15.setCell ⟨gx, 0, none⟩ (.int .i64 A4.state)).setCell ⟨gx, 1, none⟩ (.bool A4.ordered)).setCell ⟨gx, 2, none⟩ (.int .u64 A4.link)).setCell ⟨gx, 3, none⟩ (.int .u64 A4.peer)).setCell ⟨gx, 4, none⟩ (.string A4.port)).setCell ⟨gx, 5, none⟩ (.string A4.pport)) = W16 at HM ⊢
    clear HN x0 x1 x2 x3 x4 x5 fx0 fx1 fx2 fx3 fx4 fx5
    have c0 : W16.cell? ⟨w.heap.size, 0, none⟩ = some (.int .i64 c.state) := HM.out.i.c.cell 0
    have c1 : W16.cell? ⟨w.heap.size, 1, none⟩ = some (.bool c.ordered) := HM.out.i.c.cell 1
    have c2 : W16.cell? ⟨w.heap.size, 2, none⟩ = some (.int .u64 c.link) := HM.out.i.c.cell 2
    have c3 : W16.cell? ⟨w.heap.size, 3, none⟩ = some (.int .u64 c.peer) := HM.out.i.c.cell 3
    have c4 : W16.cell? ⟨w.heap.size, 4, none⟩ = some (.string c.port) := HM.out.i.c.cell 4
    have c5 : W16.cell? ⟨w.heap.size, 5, none⟩ = some (.string c.pport) := HM.out.i.c.cell 5
    go_wp2_with fail
    refine (HP2.out W16).mono ?_
    rintro e W17 ⟨rfl, hb⟩
    have HN := Lib.hid (HM.out.next hb)
    clear hb HM
    clear c0 c1 c2 c3 c4 c5
    have z0 : W17.cell? ⟨gz, 0, none⟩ = some (.int .i64 A3.state) := HN.out.z.cell 0
    have z1 : W17.cell? ⟨gz, 1, none⟩ = some (.bool A3.ordered) := HN.out.z.cell 1
    have z2 : W17.cell? ⟨gz, 2, none⟩ = some (.int .u64 A3.link) := HN.out.z.cell 2
    have z3 : W17.cell? ⟨gz, 3, none⟩ = some (.int .u64 A3.peer) := HN.out.z.cell 3
    have z4 : W17.cell? ⟨gz, 4, none⟩ = some (.string A3.port) := HN.out.z.cell 4
    have z5 : W17.cell? ⟨gz, 5, none⟩ = some (.string A3.pport) := HN.out.z.cell 5
    have fz0 := HN.out.z.frozen 0
    have fz1 := HN.out.z.frozen 1
    have fz2 := HN.out.z.frozen 2
    have fz3 := HN.out.z.frozen 3
    have fz4 := HN.out.z.frozen 4
    have fz5 := HN.out.z.frozen 5
    go_upto_region 22 with fail
    have HM := Lib.hid ((HN.out).setz A4)
    simp only [setC6] at HM
    generalize ((((((W17.setCell ⟨gz, 0, none⟩ (.int .i64 A4.state)).setCell ⟨gz, 1, none⟩ (.bool A4.ordered)).setCell ⟨gz, 2, none⟩ (.int .u64 A4.link)).setCell ⟨gz, 3, none⟩ (.int .u64 A4.peer)).setCell ⟨gz, 4, none⟩ (.string A4.port)).setCell ⟨gz, 5, none⟩ (.string A4.pport)) = W18 at HM ⊢
    clear HN z0 z1 z2 z3 z4 z5 fz0 fz1 fz2 fz3 fz4 fz5
    have x0 : W18.cell? ⟨gx, 0, none⟩ = some (.int .i64 A4.state) := HM.out.i.x.cell 0
    have x1 : W18.cell? ⟨gx, 1, none⟩ = some (.bool A4.ordered) := HM.out.i.x.cell 1
    have x2 : W18.cell? ⟨gx, 2, none⟩ = some (.int .u64 A4.link) := HM.out.i.x.cell 2
    have x3 : W18.cell? ⟨gx, 3, none⟩ = some (.int .u64 A4.peer) := HM.out.i.x.cell 3
    have x4 : W18.cell? ⟨gx, 4, none⟩ = some (.string A4.port) := HM.out.i.x.cell 4
    have x5 : W18.cell? ⟨gx, 5, none⟩ = some (.string A4.pport) := HM.out.i.x.cell 5
    have z0 : W18.cell? ⟨gz, 0, none⟩ = some (.int .i64 A4.state) := HM.out.z.cell 0
    have z1 : W18.cell? ⟨gz, 1, none⟩ = some (.bool A4.ordered) := HM.out.z.cell 1
    have z2 : W18.cell? ⟨gz, 2, none⟩ = some (.int .u64 A4.link) := HM.out.z.cell 2
    have z3 : W18.cell? ⟨gz, 3, none⟩ = some (.int .u64 A4.peer) := HM.out.z.cell 3
    have z4 : W18.cell? ⟨gz, 4, none⟩ = some (.string A4.port) := HM.out.z.cell 4
    have z5 : W18.cell? ⟨gz, 5, none⟩ = some (.string A4.pport) := HM.out.z.cell 5
    have hq1 := fun W => ch_eq A4 A4 W
    rw [(Ch.eqB_iff A4 A4).2 rfl] at hq1
    go_upto_region 24 with fail
    clear x0 x1 x2 x3 x4 x5 z0 z1 z2 z3 z4 z5 hq1
    clear HP1 HP2
    obtain ⟨A5, B5, e5, hp1, hp2⟩ := closed_pair n0 c n1
    have HP1 := Lib.hid hp1
    have HP2 := Lib.hid hp2
    clear hp1 hp2
    have n0c : W18.cell? ⟨w.heap.size + 1, 0, none⟩ = some (.int .u64 n0) := HM.out.i.n.cell 0
    have c0 : W18.cell? ⟨w.heap.size, 0, none⟩ = some (.int .i64 c.state) := HM.out.i.c.cell 0
    have c1 : W18.cell? ⟨w.heap.size, 1, none⟩ = some (.bool c.ordered) := HM.out.i.c.cell 1
    have c2 : W18.cell? ⟨w.heap.size, 2, none⟩ = some (.int .u64 c.link) := HM.out.i.c.cell 2
    have c3 : W18.cell? ⟨w.heap.size, 3, none⟩ = some (.int .u64 c.peer) := HM.out.i.c.cell 3
    have c4 : W18.cell? ⟨w.heap.size, 4, none⟩ = some (.string c.port) := HM.out.i.c.cell 4
    have c5 : W18.cell? ⟨w.heap.size, 5, none⟩ = some (.string c.pport) := HM.out.i.c.cell 5
    have n1c : W18.cell? ⟨w.heap.size + 1, 1, none⟩ = some (.int .u64 n1) := HM.out.i.n.cell 1
    go_wp2_with fail
    refine (HP1.out W18).mono ?_
    rintro e W19 ⟨rfl, hb⟩
    have HN := Lib.hid (HM.out.next hb)
    clear hb HM
    clear n0c c0 c1 c2 c3 c4 c5 n1c
    have x0 : W19.cell? ⟨gx, 0, none⟩ = some (.int .i64 A4.state) := HN.out.i.x.cell 0
    have x1 : W19.cell? ⟨gx, 1, none⟩ = some (.bool A4.ordered) := HN.out.i.x.cell 1
    have x2 : W19.cell? ⟨gx, 2, none⟩ = some (.int .u64 A4.link) := HN.out.i.x.cell 2
    have x3 : W19.cell? ⟨gx, 3, none⟩ = some (.int .u64 A4.peer) := HN.out.i.x.cell 3
    have x4 : W19.cell? ⟨gx, 4, none⟩ = some (.string A4.port) := HN.out.i.x.cell 4
    have x5 : W19.cell? ⟨gx, 5, none⟩ = some (.string A4.pport) := HN.out.i.x.cell 5
    have fx0 := HN.out.i.x.frozen 0
    have fx1 := HN.out.i.x.frozen 1
    have fx2 := HN.out.i.x.frozen 2
    have fx3 := HN.out.i.x.frozen 3
    have fx4 := HN.out.i.x.frozen 4
    have fx5 := HN.out.i.x.frozen 5
    have y0 : W19.cell? ⟨gy, 0, none⟩ = some (.int .i64 B3.state) := HN.out.i.y.cell 0
    have y1 : W19.cell? ⟨gy, 1, none⟩ = some (.bool B3.ordered) := HN.out.i.y.cell 1
    have y2 : W19.cell? ⟨gy, 2, none⟩ = some (.int .u64 B3.link) := HN.out.i.y.cell 2
    have y3 : W19.cell? ⟨gy, 3, none⟩ = some (.int .u64 B3.peer) := HN.out.i.y.cell 3
    have y4 : W19.cell? ⟨gy, 4, none⟩ = some (.string B3.port) := HN.out.i.y.cell 4
    have y5 : W19.cell? ⟨gy, 5, none⟩ = some (.string B3.pport) := HN.out.i.y.cell 5
    have fy0 := HN.out.i.y.frozen 0
    have fy1 := HN.out.i.y.frozen 1
    have fy2 := HN.out.i.y.frozen 2
    have fy3 := HN.out.i.y.frozen 3
    have fy4 := HN.out.i.y.frozen 4
    have fy5 := HN.out.i.y.frozen 5
    have hne : gx ≠ gy := by have := HN.out.i.hy; omega
    have hne2 : gy ≠ gx := Ne.symm hne
    go_upto_region 25 with fail
    have HM := Lib.hid (((HN.out).setx A5).sety B5)
    simp only [setC6] at HM
    generalize ((((((((((((W19.setCell ⟨gx, 0, none⟩ (.int .i64 A5.state)).setCell ⟨gx, 1, none⟩ (.bool A5.ordered)).setCell ⟨gx, 2, none⟩ (.int .u64 A5.link)).setCell ⟨gx, 3, none⟩ (.int .u64 A5.peer)).setCell ⟨gx, 4, none⟩ (.string A5.port)).setCell ⟨gx, 5, none⟩ (.string A5.pport)).setCell ⟨gy, 0, none⟩ (.int .i64 B5.state)).setCell ⟨gy, 1, none⟩ (.bool B5.ordered)).setCell ⟨gy, 2, none⟩ (.int .u64 B5.link)).setCell ⟨gy, 3, none⟩ (.int .u64 B5.peer)).setCell ⟨gy, 4, none⟩ (.string B5.port)).setCell ⟨gy, 5, none⟩ (.string B5.pport)) = W20 at HM ⊢
    clear HN x0 x1 x2 x3 x4 x5 fx0 fx1 fx2 fx3 fx4 fx5 y0 y1 y2 y3 y4 y5 fy0 fy1 fy2 fy3 fy4 fy5 hne hne2
    have n0c : W20.cell? ⟨w.heap.size + 1, 0, none⟩ = some (.int .u64 n0) := HM.out.i.n.cell 0
    have c0 : W20.cell? ⟨w.heap.size, 0, none⟩ = some (.int .i64 c.state) := HM.out.i.c.cell 0
    have c1 : W20.cell? ⟨w.heap.size, 1, none⟩ = some (.bool c.ordered) := HM.out.i.c.cell 1
    have c2 : W20.cell? ⟨w.heap.size, 2, none⟩ = some (.int .u64 c.link) := HM.out.i.c.cell 2
    have c3 : W20.cell? ⟨w.heap.size, 3, none⟩ = some (.int .u64 c.peer) := HM.out.i.c.cell 3
    have c4 : W20.cell? ⟨w.heap.size, 4, none⟩ = some (.string c.port) := HM.out.i.c.cell 4
    have c5 : W20.cell? ⟨w.heap.size, 5, none⟩ = some (.string c.pport) := HM.out.i.c.cell 5
    have n1c : W20.cell? ⟨w.heap.size + 1, 1, none⟩ = some (.int .u64 n1) := HM.out.i.n.cell 1
    go_wp2_with fail
    refine (HP2.out W20).mono ?_
    rintro e W21 ⟨rfl, hb⟩
    have HN := Lib.hid (HM.out.next hb)
    clear hb HM
    clear n0c c0 c1 c2 c3 c4 c5 n1c
    have z0 : W21.cell? ⟨gz, 0, none⟩ = some (.int .i64 A4.state) := HN.out.z.cell 0
    have z1 : W21.cell? ⟨gz, 1, none⟩ = some (.bool A4.ordered) := HN.out.z.cell 1
    have z2 : W21.cell? ⟨gz, 2, none⟩ = some (.int .u64 A4.link) := HN.out.z.cell 2
    have z3 : W21.cell? ⟨gz, 3, none⟩ = some (.int .u64 A4.peer) := HN.out.z.cell 3
    have z4 : W21.cell? ⟨gz, 4, none⟩ = some (.string A4.port) := HN.out.z.cell 4
    have z5 : W21.cell? ⟨gz, 5, none⟩ = some (.string A4.pport) := HN.out.z.cell 5
    have fz0 := HN.out.z.frozen 0
    have fz1 := HN.out.z.frozen 1
    have fz2 := HN.out.z.frozen 2
    have fz3 := HN.out.z.frozen 3
    have fz4 := HN.out.z.frozen 4
    have fz5 := HN.out.z.frozen 5
    have u0 : W21.cell? ⟨gu, 0, none⟩ = some (.int .i64 B3.state) := HN.out.u.cell 0
    have u1 : W21.cell? ⟨gu, 1, none⟩ = some (.bool B3.ordered) := HN.out.u.cell 1
    have u2 : W21.cell? ⟨gu, 2, none⟩ = some (.int .u64 B3.link) := HN.out.u.cell 2
    have u3 : W21.cell? ⟨gu, 3, none⟩ = some (.int .u64 B3.peer) := HN.out.u.cell 3
    have u4 : W21.cell? ⟨gu, 4, none⟩ = some (.string B3.port) := HN.out.u.cell 4
    have u5 : W21.cell? ⟨gu, 5, none⟩ = some (.string B3.pport) := HN.out.u.cell 5
    have fu0 := HN.out.u.frozen 0
    have fu1 := HN.out.u.frozen 1
    have fu2 := HN.out.u.frozen 2
    have fu3 := HN.out.u.frozen 3
    have fu4 := HN.out.u.frozen 4
    have fu5 := HN.out.u.frozen 5
    have hne : gz ≠ gu := by have := HN.out.hu; omega
    have hne2 : gu ≠ gz := Ne.symm hne
    go_upto_region 26 with fail
    have HM := Lib.hid (((HN.out).setz A5).setu B5)
    simp only [setC6] at HM
    generalize ((((((((((((W21.setCell ⟨gz, 0, none⟩ (.int .i64 A5.state)).setCell ⟨gz, 1, none⟩ (.bool A5.ordered)).setCell ⟨gz, 2, none⟩ (.int .u64 A5.link)).setCell ⟨gz, 3, none⟩ (.int .u64 A5.peer)).setCell ⟨gz, 4, none⟩ (.string A5.port)).setCell ⟨gz, 5, none⟩ (.string A5.pport)).setCell ⟨gu, 0, none⟩ (.int .i64 B5.state)).setCell ⟨gu, 1, none⟩ (.bool B5.ordered)).setCell ⟨gu, 2, none⟩ (.int .u64 B5.link)).setCell ⟨gu, 3, none⟩ (.int .u64 B5.peer)).setCell ⟨gu, 4, none⟩ (.string B5.port)).setCell ⟨gu, 5, none⟩ (.string B5.pport)) = W22 at HM ⊢
    clear HN z0 z1 z2 z3 z4 z5 fz0 fz1 fz2 fz3 fz4 fz5 u0 u1 u2 u3 u4 u5 fu0 fu1 fu2 fu3 fu4 fu5 hne hne2
    have x0 : W22.cell? ⟨gx, 0, none⟩ = some (.int .i64 A5.state) := HM.out.i.x.cell 0
    have x1 : W22.cell? ⟨gx, 1, none⟩ = some (.bool A5.ordered) := HM.out.i.x.cell 1
    have x2 : W22.cell? ⟨gx, 2, none⟩ = some (.int .u64 A5.link) := HM.out.i.x.cell 2
    have x3 : W22.cell? ⟨gx, 3, none⟩ = some (.int .u64 A5.peer) := HM.out.i.x.cell 3
    have x4 : W22.cell? ⟨gx, 4, none⟩ = some (.string A5.port) := HM.out.i.x.cell 4
    have x5 : W22.cell? ⟨gx, 5, none⟩ = some (.string A5.pport) := HM.out.i.x.cell 5
    have z0 : W22.cell? ⟨gz, 0, none⟩ = some (.int .i64 A5.state) := HM.out.z.cell 0
    have z1 : W22.cell? ⟨gz, 1, none⟩ = some (.bool A5.ordered) := HM.out.z.cell 1
    have z2 : W22.cell? ⟨gz, 2, none⟩ = some (.int .u64 A5.link) := HM.out.z.cell 2
    have z3 : W22.cell? ⟨gz, 3, none⟩ = some (.int .u64 A5.peer) := HM.out.z.cell 3
    have z4 : W22.cell? ⟨gz, 4, none⟩ = some (.string A5.port) := HM.out.z.cell 4
    have z5 : W22.cell? ⟨gz, 5, none⟩ = some (.string A5.pport) := HM.out.z.cell 5
    have y0 : W22.cell? ⟨gy, 0, none⟩ = some (.int .i64 B5.state) := HM.out.i.y.cell 0
    have y1 : W22.cell? ⟨gy, 1, none⟩ = some (.bool B5.ordered) := HM.out.i.y.cell 1
    have y2 : W22.cell? ⟨gy, 2, none⟩ = some (.int .u64 B5.link) := HM.out.i.y.cell 2
    have y3 : W22.cell? ⟨gy, 3, none⟩ = some (.int .u64 B5.peer) := HM.out.i.y.cell 3
    have y4 : W22.cell? ⟨gy, 4, none⟩ = some (.string B5.port) := HM.out.i.y.cell 4
    have y5 : W22.cell? ⟨gy, 5, none⟩ = some (.string B5.pport) := HM.out.i.y.cell 5
    have u0 : W22.cell? ⟨gu, 0, none⟩ = some (.int .i64 B5.state) := HM.out.u.cell 0
    have u1 : W22.cell? ⟨gu, 1, none⟩ = some (.bool B5.ordered) := HM.out.u.cell 1
    have u2 : W22.cell? ⟨gu, 2, none⟩ = some (.int .u64 B5.link) := HM.out.u.cell 2
    have u3 : W22.cell? ⟨gu, 3, none⟩ = some (.int .u64 B5.peer) := HM.out.u.cell 3
    have u4 : W22.cell? ⟨gu, 4, none⟩ = some (.string B5.port) := HM.out.u.cell 4
    have u5 : W22.cell? ⟨gu, 5, none⟩ = some (.string B5.pport) := HM.out.u.cell 5
    have hq1 := fun W => ch_eq A5 A5 W
    rw [(Ch.eqB_iff A5 A5).2 rfl] at hq1
    have hq2 := fun W => ch_eq B5 B5 W
    rw [(Ch.eqB_iff B5 B5).2 rfl] at hq2
    clear HP1 HP2
    go_wp2_with fail
    go_ret
    exact ⟨rfl, HM.out.i.bel⟩
  · exact KStep.plain rfl fun ρ d u W he hc hdi hd hJ => swp_val (run_move (he.o h9 rfl)) (hJ.pure 0 rfl)
  · exact KStep.plain rfl fun ρ d u W he hc hdi hd hJ => swp_val (run_not (he.i hz (hJ.vals 0 (hd 0 (by kernel_rfl))) (j := 0) (d := 41) rfl (by decide))) (hJ.pure 1 rfl)
  · exact KStep.plain rfl fun ρ d u W he hc hdi hd hJ => swp_val (run_move (he.i hz (hJ.vals 1 (hd 1 (by kernel_rfl))) (j := 1) (d := 42) rfl (by decide))) (hJ.pure 2 rfl)
  · exact KStep.gd 2 false rfl (by kernel_rfl) (fun d u W hJ hd => hJ.vals 2 hd) fun ρ d u W he hc hdi hd hJ => swp_val (run_move (he.o h10 rfl)) (hJ.pure 3 rfl)
  · exact KStep.gd 2 false rfl (by kernel_rfl) (fun d u W hJ hd => hJ.vals 2 hd) fun ρ d u W he hc hdi hd hJ => swp_val (run_move (he.o h12 rfl)) (hJ.pure 4 rfl)
  · exact KStep.gd 2 false rfl (by kernel_rfl) (fun d u W hJ hd => hJ.vals 2 hd) fun ρ d u W he hc hdi hd hJ => swp_val (run_bin (he.i hz (hJ.vals 3 (hd 3 (by kernel_rfl))) (j := 3) (d := 44) rfl (by decide)) (he.i hz (hJ.vals 4 (hd 4 (by kernel_rfl))) (j := 4) (d := 45) rfl (by decide)) rfl (by go_simp)) (hJ.pure 5 rfl)
  · exact KStep.plain rfl fun ρ d u W he hc hdi hd hJ => swp_val (run_pick_f (he.i hz (hJ.vals 2 (hd 2 (by kernel_rfl))) (j := 2) (d := 43) rfl (by decide)) (he.i hz (hJ.vals 5 (hd 5 (by kernel_rfl))) (j := 5) (d := 46) rfl (by decide))) (hJ.pure 6 rfl)
  · exact KStep.plain rfl fun ρ d u W he hc hdi hd hJ => swp_val (run_move (he.i hz (hJ.vals 6 (hd 6 (by kernel_rfl))) (j := 6) (d := 47) rfl (by decide))) (hJ.pure 7 rfl)
  · exact KStep.gd 7 false rfl (by kernel_rfl) (fun d u W hJ hd => hJ.vals 7 hd) fun ρ d u W he hc hdi hd hJ => swp_val (run_move (he.o h11 rfl)) (hJ.pure 8 rfl)
  · exact KStep.gd 7 false rfl (by kernel_rfl) (fun d u W hJ hd => hJ.vals 7 hd) fun ρ d u W he hc hdi hd hJ => swp_val (run_move (he.o h13 rfl)) (hJ.pure 9 rfl)
  · exact KStep.gd 7 false rfl (by kernel_rfl) (fun d u W hJ hd => hJ.vals 7 hd) fun ρ d u W he hc hdi hd hJ => swp_val (run_bin (he.i hz (hJ.vals 8 (hd 8 (by kernel_rfl))) (j := 8) (d := 49) rfl (by decide)) (he.i hz (hJ.vals 9 (hd 9 (by kernel_rfl))) (j := 9) (d := 50) rfl (by decide)) rfl (by go_simp)) (hJ.pure 10 rfl)
  · exact KStep.plain rfl fun ρ d u W he hc hdi hd hJ => swp_val (run_pick_f (he.i hz (hJ.vals 7 (hd 7 (by kernel_rfl))) (j := 7) (d := 48) rfl (by decide)) (he.i hz (hJ.vals 10 (hd 10 (by kernel_rfl))) (j := 10) (d := 51) rfl (by decide))) (hJ.pure 11 rfl)
  · exact KStep.plain rfl fun ρ d u W he hc hdi hd hJ => swp_val (run_move (he.i hz (hJ.vals 11 (hd 11 (by kernel_rfl))) (j := 11) (d := 52) rfl (by decide))) (hJ.pure 12 rfl)
  · exact KStep.gd 12 false rfl (by kernel_rfl) (fun d u W hJ hd => hJ.vals 12 hd) fun ρ d u W he hc hdi hd hJ => swp_val (run_load (he.o h14 rfl) (load_ch hJ.inv.x)) (hJ.pure 13 rfl)
  · exact KStep.gd 12 false rfl (by kernel_rfl) (fun d u W hJ hd => hJ.vals 12 hd) fun ρ d u W he hc hdi hd hJ => swp_val (run_load (he.o h16 rfl) (load_ch hJ.inv.y)) (hJ.pure 14 rfl)
  · exact KStep.gd 12 false rfl (by kernel_rfl) (fun d u W hJ hd => hJ.vals 12 hd) fun ρ d u W he hc hdi hd hJ => swp_val (run_bin (he.i hz (hJ.vals 13 (hd 13 (by kernel_rfl))) (j := 13) (d := 54) rfl (by decide)) (he.i hz (hJ.vals 14 (hd 14 (by kernel_rfl))) (j := 14) (d := 55) rfl (by decide)) (ch_guard _ _ X X W) (ch_ne X W)) (hJ.pure 15 rfl)
  · exact KStep.plain rfl fun ρ d u W he hc hdi hd hJ => swp_val (run_pick_f (he.i hz (hJ.vals 12 (hd 12 (by kernel_rfl))) (j := 12) (d := 53) rfl (by decide)) (he.i hz (hJ.vals 15 (hd 15 (by kernel_rfl))) (j := 15) (d := 56) rfl (by decide))) (hJ.pure 16 rfl)
  · exact KStep.plain rfl fun ρ d u W he hc hdi hd hJ => swp_val (run_move (he.i hz (hJ.vals 16 (hd 16 (by kernel_rfl))) (j := 16) (d := 57) rfl (by decide))) (hJ.pure 17 rfl)
  · exact KStep.gd 17 false rfl (by kernel_rfl) (fun d u W hJ hd => hJ.vals 17 hd) fun ρ d u W he hc hdi hd hJ => swp_val (run_move (he.o h15 rfl)) (hJ.pure 18 rfl)
  · exact KStep.gd 17 false rfl (by kernel_rfl) (fun d u W hJ hd => hJ.vals 17 hd) fun ρ d u W he hc hdi hd hJ => swp_val (run_move (he.o h17 rfl)) (hJ.pure 19 rfl)
  · exact KStep.gd 17 false rfl (by kernel_rfl) (fun d u W hJ hd => hJ.vals 17 hd) fun ρ d u W he hc hdi hd hJ => swp_val (run_bin (he.i hz (hJ.vals 18 (hd 18 (by kernel_rfl))) (j := 18) (d := 59) rfl (by decide)) (he.i hz (hJ.vals 19 (hd 19 (by kernel_rfl))) (j := 19) (d := 60) rfl (by decide)) rfl (by go_simp)) (hJ.pure 20 rfl)
  · exact KStep.plain rfl fun ρ d u W he hc hdi hd hJ => swp_val (run_pick_f (he.i hz (hJ.vals 17 (hd 17 (by kernel_rfl))) (j := 17) (d := 58) rfl (by decide)) (he.i hz (hJ.vals 20 (hd 20 (by kernel_rfl))) (j := 20) (d := 61) rfl (by decide))) (hJ.pure 21 rfl)
  · exact KStep.plain rfl fun ρ d u W he hc hdi hd hJ => swp_val (run_move (he.i hz (hJ.vals 21 (hd 21 (by kernel_rfl))) (j := 21) (d := 62) rfl (by decide))) (hJ.pure 22 rfl)
  · exact KStep.gd 22 false rfl (by kernel_rfl) (fun d u W hJ hd => hJ.vals 22 hd) fun ρ d u W he hc hdi hd hJ => swp_val (run_fieldAddr (he.o h4 rfl) (by go_simp)) (hJ.pure 23 rfl)
  · exact KStep.gd 22 false rfl (by kernel_rfl) (fun d u W hJ hd => hJ.vals 22 hd) fun ρ d u W he hc hdi hd hJ => swp_val (run_load (he.i hz (hJ.vals 23 (hd 23 (by kernel_rfl))) (j := 23) (d := 64) rfl (by decide)) (load_b1 _ 1 W _ (hJ.inv.c.cell 1))) (hJ.pure 24 rfl)
  · exact KStep.gd 22 false rfl (by kernel_rfl) (fun d u W hJ hd => hJ.vals 22 hd) fun ρ d u W he hc hdi hd hJ => swp_val (run_indexAddr (he.o h6 rfl) (he.const _) (by go_simp)) (hJ.pure 25 rfl)
  · exact KStep.gd 22 false rfl (by kernel_rfl) (fun d u W hJ hd => hJ.vals 22 hd) fun ρ d u W he hc hdi hd hJ => swp_val (run_load (he.i hz (hJ.vals 25 (hd 25 (by kernel_rfl))) (j := 25) (d := 66) rfl (by decide)) (load_u1 _ 0 W _ (hJ.inv.n.cell 0))) (hJ.pure 26 rfl)
  · exact KStep.gd 22 false rfl (by kernel_rfl) (fun d u W hJ hd => hJ.vals 22 hd) fun ρ d u W he hc hdi hd hJ => swp_val (run_fieldAddr (he.o h4 rfl) (by go_simp)) (hJ.pure 27 rfl)
  · exact KStep.gd 22 false rfl (by kernel_rfl) (fun d u W hJ hd => hJ.vals 22 hd) fun ρ d u W he hc hdi hd hJ => swp_val (run_load (he.i hz (hJ.vals 27 (hd 27 (by kernel_rfl))) (j := 27) (d := 68) rfl (by decide)) (load_s1 _ 4 W _ (hJ.inv.c.cell 4))) (hJ.pure 28 rfl)
  · exact KStep.gd 22 false rfl (by kernel_rfl) (fun d u W hJ hd => hJ.vals 22 hd) fun ρ d u W he hc hdi hd hJ => swp_val (run_move (he.o h1 rfl)) (hJ.pure 29 rfl)
  · exact KStep.gd 22 false rfl (by kernel_rfl) (fun d u W hJ hd => hJ.vals 22 hd) fun ρ d u W he hc hdi hd hJ => swp_call (run_call #[.bool c.ordered, .int .u64 n0, .string c.port, .string s] (he.func _) (by kernel_rfl) (map4 (he.i hz (hJ.vals 24 (hd 24 (by kernel_rfl))) (j := 24) (d := 65) rfl (by decide)) (he.i hz (hJ.vals 26 (hd 26 (by kernel_rfl))) (j := 26) (d := 67) rfl (by decide)) (he.i hz (hJ.vals 28 (hd 28 (by kernel_rfl))) (j := 28) (d := 69) rfl (by decide)) (he.i hz (hJ.vals 29 (hd 29 (by kernel_rfl))) (j := 29) (d := 70) rfl (by decide)))) (init_is _ _ _ _ W) (fun e W' h => ⟨_, h.1, hJ.next 30 rfl (hJ.inv.next h.2)⟩)
  · exact KStep.gd 22 false rfl (by kernel_rfl) (fun d u W hJ hd => hJ.vals 22 hd) fun ρ d u W he hc hdi hd hJ => swp_val (run_fieldAddr (he.o h4 rfl) (by go_simp)) (hJ.pure 31 rfl)
  · exact KStep.gd 22 false rfl (by kernel_rfl) (fun d u W hJ hd => hJ.vals 22 hd) fun ρ d u W he hc hdi hd hJ => swp_val (run_load (he.i hz (hJ.vals 31 (hd 31 (by kernel_rfl))) (j := 31) (d := 72) rfl (by decide)) (load_b1 _ 1 W _ (hJ.inv.c.cell 1))) (hJ.pure 32 rfl)
  · exact KStep.gd 22 false rfl (by kernel_rfl) (fun d u W hJ hd => hJ.vals 22 hd) fun ρ d u W he hc hdi hd hJ => swp_val (run_indexAddr (he.o h6 rfl) (he.const _) (by go_simp)) (hJ.pure 33 rfl)
  · exact KStep.gd 22 false rfl (by kernel_rfl) (fun d u W hJ hd => hJ.vals 22 hd) fun ρ d u W he hc hdi hd hJ => swp_val (run_load (he.i hz (hJ.vals 33 (hd 33 (by kernel_rfl))) (j := 33) (d := 74) rfl (by decide)) (load_u1 _ 0 W _ (hJ.inv.n.cell 0))) (hJ.pure 34 rfl)
  · exact KStep.gd 22 false rfl (by kernel_rfl) (fun d u W hJ hd => hJ.vals 22 hd) fun ρ d u W he hc hdi hd hJ => swp_val (run_fieldAddr (he.o h4 rfl) (by go_simp)) (hJ.pure 35 rfl)
  · exact KStep.gd 22 false rfl (by kernel_rfl) (fun d u W hJ hd => hJ.vals 22 hd) fun ρ d u W he hc hdi hd hJ => swp_val (run_load (he.i hz (hJ.vals 35 (hd 35 (by kernel_rfl))) (j := 35) (d := 76) rfl (by decide)) (load_s1 _ 4 W _ (hJ.inv.c.cell 4))) (hJ.pure 36 rfl)
  · exact KStep.gd 22 false rfl (by kernel_rfl) (fun d u W hJ hd => hJ.vals 22 hd) fun ρ d u W he hc hdi hd hJ => swp_val (run_move (he.o h1 rfl)) (hJ.pure 37 rfl)
  · exact KStep.gd 22 false rfl (by kernel_rfl) (fun d u W hJ hd => hJ.vals 22 hd) fun ρ d u W he hc hdi hd hJ => swp_call (run_call #[.bool c.ordered, .int .u64 n0, .string c.port, .string s] (he.func _) (by kernel_rfl) (map4 (he.i hz (hJ.vals 32 (hd 32 (by kernel_rfl))) (j := 32) (d := 73) rfl (by decide)) (he.i hz (hJ.vals 34 (hd 34 (by kernel_rfl))) (j := 34) (d := 75) rfl (by decide)) (he.i hz (hJ.vals 36 (hd 36 (by kernel_rfl))) (j := 36) (d := 77) rfl (by decide)) (he.i hz (hJ.vals 37 (hd 37 (by kernel_rfl))) (j := 37) (d := 78) rfl (by decide)))) (rinit_is _ _ _ _ W) (fun e W' h => ⟨_, h.1, hJ.next 38 rfl (hJ.inv.next h.2)⟩)
  · exact KStep.gd 22 false rfl (by kernel_rfl) (fun d u W hJ hd => hJ.vals 22 hd) fun ρ d u W he hc hdi hd hJ => swp_val (run_bin (he.i hz (hJ.vals 30 (hd 30 (by kernel_rfl))) (j := 30) (d := 71) rfl (by decide)) (he.i hz (hJ.vals 38 (hd 38 (by kernel_rfl))) (j := 38) (d := 79) rfl (by decide)) (ch_guard _ _ ⟨1, c.ordered, n0, 0, c.port, s⟩ ⟨1, c.ordered, n0, 0, c.port, s⟩ W) (ch_ne ⟨1, c.ordered, n0, 0, c.port, s⟩ W)) (hJ.pure 39 rfl)
  · exact KStep.plain rfl fun ρ d u W he hc hdi hd hJ => swp_val (run_pick_f (he.i hz (hJ.vals 22 (hd 22 (by kernel_rfl))) (j := 22) (d := 63) rfl (by decide)) (he.i hz (hJ.vals 39 (hd 39 (by kernel_rfl))) (j := 39) (d := 80) rfl (by decide))) (hJ.pure 40 rfl)
  · exact KStep.plain rfl fun ρ d u W he hc hdi hd hJ => swp_val (run_move (he.i hz (hJ.vals 40 (hd 40 (by kernel_rfl))) (j := 40) (d := 81) rfl (by decide))) (hJ.pure 41 rfl)
  · exact KStep.gd 41 false rfl (by kernel_rfl) (fun d u W hJ hd => hJ.vals 41 hd) fun ρ d u W he hc hdi hd hJ => swp_val (run_load (he.o h7 rfl) (load_pk p _ W hJ.inv.p)) (hJ.pure 42 rfl)
  · exact KStep.gd 41 false rfl (by kernel_rfl) (fun d u W hJ hd => hJ.vals 41 hd) fun ρ d u W he hc hdi hd hJ => swp_call (run_call #[.agg #[.int .u64 p.seq, .int .u64 p.src, .int .u64 p.dst, .string p.data, .int .u64 p.timeout]] (he.func _) (by kernel_rfl) (map1 (he.i hz (hJ.vals 42 (hd 42 (by kernel_rfl))) (j := 42) (d := 83) rfl (by decide)))) (HCo.out W (HG.out.below hJ.inv.bel HG.out.four)) (fun e W' h => ⟨_, h.1, hJ.next 43 rfl (hJ.inv.next h.2)⟩)
  · exact KStep.gd 41 false rfl (by kernel_rfl) (fun d u W hJ hd => hJ.vals 41 hd) fun ρ d u W he hc hdi hd hJ => swp_val (run_load (he.o h7 rfl) (load_pk p _ W hJ.inv.p)) (hJ.pure 44 rfl)
  · exact KStep.gd 41 false rfl (by kernel_rfl) (fun d u W hJ hd => hJ.vals 41 hd) fun ρ d u W he hc hdi hd hJ => swp_call (run_call #[.agg #[.int .u64 p.seq, .int .u64 p.src, .int .u64 p.dst, .string p.data, .int .u64 p.timeout]] (he.func _) (by kernel_rfl) (map1 (he.i hz (hJ.vals 44 (hd 44 (by kernel_rfl))) (j := 44) (d := 85) rfl (by decide)))) (HRo.out W (HG.out.below hJ.inv.bel HG.out.four)) (fun e W' h => ⟨_, h.1, hJ.next 45 rfl (hJ.inv.next h.2)⟩)
  · exact KStep.gd 41 false rfl (by kernel_rfl) (fun d u W hJ hd => hJ.vals 41 hd) fun ρ d u W he hc hdi hd hJ => swp_val (run_bin (he.i hz (hJ.vals 43 (hd 43 (by kernel_rfl))) (j := 43) (d := 84) rfl (by decide)) (he.i hz (hJ.vals 45 (hd 45 (by kernel_rfl))) (j := 45) (d := 86) rfl (by decide)) rfl (by go_simp)) (hJ.pure 46 rfl)
  · exact KStep.plain rfl fun ρ d u W he hc hdi hd hJ => swp_val (run_pick_f (he.i hz (hJ.vals 41 (hd 41 (by kernel_rfl))) (j := 41) (d := 82) rfl (by decide)) (he.i hz (hJ.vals 46 (hd 46 (by kernel_rfl))) (j := 46) (d := 87) rfl (by decide))) (hJ.pure 47 rfl)
  · exact KStep.plain rfl fun ρ d u W he hc hdi hd hJ => swp_val (run_move (he.i hz (hJ.vals 47 (hd 47 (by kernel_rfl))) (j := 47) (d := 88) rfl (by decide))) (hJ.pure 48 rfl)
  · exact KStep.gd 48 false rfl (by kernel_rfl) (fun d u W hJ hd => hJ.vals 48 hd) fun ρ d u W he hc hdi hd hJ => swp_val (run_move (he.o h1 rfl)) (hJ.pure 49 rfl)
  · exact KStep.gd 48 false rfl (by kernel_rfl) (fun d u W hJ hd => hJ.vals 48 hd) fun ρ d u W he hc hdi hd hJ => swp_call (run_call #[.string s] (he.func _) (by kernel_rfl) (map1 (he.i hz (hJ.vals 49 (hd 49 (by kernel_rfl))) (j := 49) (d := 90) rfl (by decide)))) (HAn.out W (HG.out.below hJ.inv.bel HG.out.four)) (fun e W' h => ⟨_, h.1, hJ.next 50 rfl (hJ.inv.next h.2)⟩)
  · exact KStep.gd 48 false rfl (by kernel_rfl) (fun d u W hJ hd => hJ.vals 48 hd) fun ρ d u W he hc hdi hd hJ => swp_val (run_move (he.o h1 rfl)) (hJ.pure 51 rfl)
  · exact KStep.gd 48 false rfl (by kernel_rfl) (fun d u W hJ hd => hJ.vals 48 hd) fun ρ d u W he hc hdi hd hJ => swp_call (run_call #[.string s] (he.func _) (by kernel_rfl) (map1 (he.i hz (hJ.vals 51 (hd 51 (by kernel_rfl))) (j := 51) (d := 92) rfl (by decide)))) (HRn.out W (HG.out.below hJ.inv.bel HG.out.four)) (fun e W' h => ⟨_, h.1, hJ.next 52 rfl (hJ.inv.next h.2)⟩)
  · exact KStep.gd 48 false rfl (by kernel_rfl) (fun d u W hJ hd => hJ.vals 48 hd) fun ρ d u W he hc hdi hd hJ => swp_val (run_bin (he.i hz (hJ.vals 50 (hd 50 (by kernel_rfl))) (j := 50) (d := 91) rfl (by decide)) (he.i hz (hJ.vals 52 (hd 52 (by kernel_rfl))) (j := 52) (d := 93) rfl (by decide)) rfl (by go_simp)) (hJ.pure 53 rfl)
  · exact KStep.plain rfl fun ρ d u W he hc hdi hd hJ => swp_val (run_pick_f (he.i hz (hJ.vals 48 (hd 48 (by kernel_rfl))) (j := 48) (d := 89) rfl (by decide)) (he.i hz (hJ.vals 53 (hd 53 (by kernel_rfl))) (j := 53) (d := 94) rfl (by decide))) (hJ.pure 54 rfl)
end Go.Proofs.YtpekbnkmnellpaaDoor
