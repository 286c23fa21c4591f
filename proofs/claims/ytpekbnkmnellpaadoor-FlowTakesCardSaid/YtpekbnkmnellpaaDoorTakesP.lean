/-
  FlowTakes: the plain part.
-/
import Derived.Test.YtpekbnkmnellpaaDoorFlowB
import Derived.Test.YtpekbnkmnellpaaDoorAwakeW
import Derived.Test.YtpekbnkmnellpaaDoorOpenA
namespace Go.Proofs.YtpekbnkmnellpaaDoor
open Go.RowKit Go.Maps
set_option linter.unusedVariables false

def ackT : ByteArray := ⟨#[97, 99, 107]⟩
/-- the flow, as FlowTakes leaves it round by round -/
def TS (o : Bool) (CM : Int → Bool) (x : Int) : Fl := ⟨o, 1, if o then x else 1, 1, fun _ => none, fun k => if CM k then some (ansB ackT) else none, if o then fun _ => false else CM⟩
def TInv (o : Bool) (CM : Int → Bool) (x : Int) : Prop := CM 0 = false ∧ (o = true → (∀ k, CM k = (decide (0 < k) && decide (k < x))) ∧ x ≤ 20)
def cmA (CM : Int → Bool) : Array Value := #[.bool (CM 0), .bool (CM 1), .bool (CM 2), .bool (CM 3), .bool (CM 4), .bool (CM 5), .bool (CM 6), .bool (CM 7), .bool (CM 8), .bool (CM 9), .bool (CM 10), .bool (CM 11), .bool (CM 12), .bool (CM 13), .bool (CM 14), .bool (CM 15), .bool (CM 16), .bool (CM 17), .bool (CM 18), .bool (CM 19)]
theorem cmA_get (CM : Int → Bool) (k : Nat) (h : k < 20) : (cmA CM)[k]? = some (.bool (CM k)) := by
  have hk : k = 0 ∨ k = 1 ∨ k = 2 ∨ k = 3 ∨ k = 4 ∨ k = 5 ∨ k = 6 ∨ k = 7 ∨ k = 8 ∨ k = 9 ∨ k = 10 ∨ k = 11 ∨ k = 12 ∨ k = 13 ∨ k = 14 ∨ k = 15 ∨ k = 16 ∨ k = 17 ∨ k = 18 ∨ k = 19 := by omega
  rcases hk with rfl | rfl | rfl | rfl | rfl | rfl | rfl | rfl | rfl | rfl | rfl | rfl | rfl | rfl | rfl | rfl | rfl | rfl | rfl | rfl <;> rfl
theorem cmA_set (CM : Int → Bool) (k : Nat) (h : k < 20) : (cmA CM).setIfInBounds k (.bool true) = cmA (upd CM k true) := by
  apply Array.ext_getElem?
  intro i
  by_cases hi : i < 20
  · rw [cmA_get _ i hi]
    by_cases e : k = i
    · subst e; rw [upd_at]; simp [cmA, hi]
    · rw [upd_ne _ _ (by omega), ← cmA_get CM i hi]; simp [e]
  · simp [cmA, show 20 ≤ i by omega]
structure TRest (o : Bool) (w : World) (B : FB) (C : Nat) (j : Nat) (CM : Int → Bool) (x : Int) (wr : World) : Prop where
  inv : TInv o CM x
  flow : ∃ m, m ≤ 2 * j ∧ FlowAt wr B m (TS o CM x)
  came : Blk wr C 35 (cmA CM)
  bel : Below w.heap.size w wr
  glob : Glob wr
def TakesRel (o : Bool) (w : World) (B : FB) (C : Nat) (c : Nat) (nx i : Value) (wr : World) : Prop :=
  ∃ (j : Nat) (CM : Int → Bool) (x : Int), j ≤ 40 ∧ c = 40 - j ∧ i = .int .i64 j ∧ nx = .int .u64 x ∧ 1 ≤ x ∧ x ≤ j + 1 ∧ TRest o w B C j CM x wr
theorem takes_start (o : Bool) (w w1 w2 : World) (B : FB) (G : Glob w1) (hb1 : Below w.heap.size w w1) (hb2 : Below w1.heap.size w1 w2) (hf : FlowAt w2 B 0 (Fl.new o)) : TRest o w B w2.heap.size 0 (fun _ => false) 1 (w2.alloc (.cells (cmA fun _ => false) 35)) := by
  refine ⟨⟨rfl, fun h => ⟨fun k => ?_, by omega⟩⟩, ⟨0, by omega, ?_⟩, Blk.new _ _ _, balloc (bstep hb1 hb2) _, (G.below hb2 G.two).alloc _⟩
  · by_cases h0 : 0 < k
    · have : ¬ k < 1 := by omega
      simp [this]
    · simp [h0]
  · have : TS o (fun _ => false) 1 = Fl.new o := by cases o <;> rfl
    rw [this]
    exact hf.alloc _
def mayB (o late : Bool) (sx : Nat) (x : Int) (c : Bool) : Bool := !late && ((o && ((sx : Int) == x)) || (!o && ((sx : Int) != 0) && !c))
def tp (sx : Nat) (tm : Int) : Pk := ⟨sx, 0, 0, ⟨#[]⟩, tm⟩
theorem ts_written (o : Bool) (CM : Int → Bool) (x k : Int) : (TS o CM x).written k = if CM k then some (ansB ackT) else none := rfl
theorem ts_came (o : Bool) (CM : Int → Bool) (x : Int) (k : Int) (hI : TInv o CM x) : (TS o CM x).came k = CM k := by
  cases o with
  | true =>
    have := (hI.2 rfl).1 k
    rw [this]
    rfl
  | false => rfl
theorem ts_code (o : Bool) (CM : Int → Bool) (x : Int) (sx : Nat) (tm h : Int) (hI : TInv o CM x) : (TS o CM x).recvCode (tp sx tm) h = if lateB (tp sx tm) h then 182 else if mayB o false sx x (CM sx) then 0 else if o then 183 else 184 := by
  unfold Fl.recvCode
  cases lateB (tp sx tm) h with
  | true => rfl
  | false =>
    cases o with
    | true =>
      show Fl.may (TS true CM x) (sx : Int) = _
      rw [may_ord _ _ rfl]
      show (if (sx : Int) = x then (0 : Int) else 183) = _
      by_cases e : (sx : Int) = x
      · simp [mayB, e]
      · simp [mayB, e]
    | false =>
      show Fl.may (TS false CM x) (sx : Int) = _
      rw [may_un _ _ rfl]
      show (if (sx : Int) = 0 ∨ CM (sx : Int) = true then (184 : Int) else 0) = _
      by_cases e : (sx : Int) = 0
      · simp [mayB, e]
      · have e' : ¬ sx = 0 := by omega
        rw [show mayB false false sx x (CM sx) = !CM sx by simp [mayB, e']]
        cases hc : CM (sx : Int) <;> simp [e']
theorem mayB_late (o late : Bool) (sx : Nat) (x : Int) (c : Bool) : mayB o late sx x c = (!late && mayB o false sx x c) := by unfold mayB; simp
theorem ts_tests (o : Bool) (CM : Int → Bool) (x : Int) (sx : Nat) (tm h : Int) (hI : TInv o CM x) :
    (((TS o CM x).recvCode (tp sx tm) h == 0) = mayB o (lateB (tp sx tm) h) sx x (CM sx)) ∧ (((TS o CM x).recvCode (tp sx tm) h == 182) = lateB (tp sx tm) h) := by
  rw [ts_code o CM x sx tm h hI, mayB_late o (lateB (tp sx tm) h)]
  generalize mayB o false sx x (CM sx) = mb
  cases lateB (tp sx tm) h <;> cases mb <;> cases o <;> decide
theorem ts_not (o : Bool) (CM : Int → Bool) (x : Int) (sx : Nat) (tm h : Int) (hI : TInv o CM x) (hm : mayB o (lateB (tp sx tm) h) sx x (CM sx) = false) : (TS o CM x).recvd (tp sx tm) h = TS o CM x ∧ (TS o CM x).wCode sx = (if CM sx then 184 else 185) ∧ (TS o CM x).writ sx ackT = TS o CM x := by
  have hc := (ts_tests o CM x sx tm h hI).1
  rw [hm] at hc
  have hw : (TS o CM x).wCode sx = (if CM sx then 184 else 185) := by
    unfold Fl.wCode
    rw [ts_came o CM x _ hI, ts_written]
    cases CM sx <;> rfl
  refine ⟨?_, hw, ?_⟩
  · unfold Fl.recvd
    rw [if_neg]
    intro e
    rw [e] at hc
    cases hc
  · unfold Fl.writ
    rw [hw]
    cases CM sx <;> rfl
theorem ts_yes (o : Bool) (CM : Int → Bool) (x : Int) (sx : Nat) (tm h : Int) (hI : TInv o CM x) (hx : 1 ≤ x) (hx2 : x ≤ 41) (hsx : sx < 20) (hm : mayB o (lateB (tp sx tm) h) sx x (CM sx) = true) :
    CM sx = false ∧ ((TS o CM x).recvd (tp sx tm) h).came sx = true ∧ ((TS o CM x).recvd (tp sx tm) h).written sx = none ∧ ((TS o CM x).recvd (tp sx tm) h).wCode sx = 0 ∧
      ((TS o CM x).recvd (tp sx tm) h).writ sx ackT = TS o (upd CM sx true) (x + 1) ∧ TInv o (upd CM sx true) (x + 1) := by
  have hc := (ts_tests o CM x sx tm h hI).1
  rw [hm] at hc
  have hc0 : (TS o CM x).recvCode (tp sx tm) h = 0 := by simpa using hc
  have hr : (TS o CM x).recvd (tp sx tm) h = (TS o CM x).took sx := by unfold Fl.recvd; rw [if_pos hc0]; rfl
  rw [hr]
  rw [mayB_late o (lateB (tp sx tm) h)] at hm
  have hm' : mayB o false sx x (CM sx) = true := by simp only [Bool.and_eq_true] at hm; exact hm.2
  have hwr : IntKind.u64.wrap (x + 1) = x + 1 := by rw [IntKind.wrap_u64]; omega
  cases o with
  | true =>
    have hsq : (sx : Int) = x := by simpa [mayB] using hm'
    obtain ⟨hall, h20⟩ := hI.2 rfl
    have hcf : CM sx = false := by rw [hall]; simp [hsq]
    have ht : (TS true CM x).took sx = { TS true CM x with recv := x + 1 } := by show ({ TS true CM x with recv := IntKind.u64.wrap (x + 1) } : Fl) = _; rw [hwr]
    rw [ht]
    have h1 : ({ TS true CM x with recv := x + 1 } : Fl).came sx = true := by
      show (decide (0 < (sx : Int)) && decide ((sx : Int) < x + 1)) = true
      simp; omega
    have h2 : ({ TS true CM x with recv := x + 1 } : Fl).written sx = none := by
      show (if CM sx then some (ansB ackT) else none) = none
      rw [hcf]; rfl
    have h3 : ({ TS true CM x with recv := x + 1 } : Fl).wCode sx = 0 := by unfold Fl.wCode; rw [h1, h2]; rfl
    refine ⟨hcf, h1, h2, h3, ?_, ?_, fun _ => ⟨fun k => ?_, by omega⟩⟩
    · unfold Fl.writ
      rw [if_pos h3]
      unfold Fl.wrote TS
      congr 1
      funext k
      by_cases e : k = sx
      · rw [e, upd_at, upd_at]; rfl
      · rw [upd_ne _ _ e, upd_ne _ _ e]
    · by_cases e : (0 : Int) = sx
      · omega
      · rw [upd_ne _ _ e]; exact hI.1
    · by_cases e : k = sx
      · rw [e, upd_at]; simp; omega
      · rw [upd_ne _ _ e, hall k]
        by_cases h0 : 0 < k
        · by_cases h1 : k < x
          · have : k < x + 1 := by omega
            simp [h0, h1, this]
          · have : ¬ k < x + 1 := by omega
            simp [h0, h1, this]
        · simp [h0]
  | false =>
    have hms : (sx : Int) ≠ 0 ∧ CM sx = false := by simpa [mayB] using hm'
    have ht : (TS false CM x).took sx = { TS false CM x with got := upd CM sx true } := by unfold Fl.took; rfl
    rw [ht]
    have h1 : ({ TS false CM x with got := upd CM sx true } : Fl).came sx = true := by
      show upd CM sx true sx = true
      rw [upd_at]
    have h2 : ({ TS false CM x with got := upd CM sx true } : Fl).written sx = none := by
      show (if CM sx then some (ansB ackT) else none) = none
      rw [hms.2]; rfl
    have h3 : ({ TS false CM x with got := upd CM sx true } : Fl).wCode sx = 0 := by unfold Fl.wCode; rw [h1, h2]; rfl
    refine ⟨hms.2, h1, h2, h3, ?_, ?_, fun h => by cases h⟩
    · unfold Fl.writ
      rw [if_pos h3]
      unfold Fl.wrote TS
      congr 1
      funext k
      by_cases e : k = sx
      · rw [e, upd_at, upd_at]; rfl
      · rw [upd_ne _ _ e, upd_ne _ _ e]
    · rw [upd_ne _ _ (Ne.symm hms.1)]; exact hI.1
theorem TRest.below {o : Bool} {w : World} {B : FB} {C j : Nat} {CM : Int → Bool} {x : Int} {wr w' : World} (h : TRest o w B C j CM x wr) (hb : Below wr.heap.size wr w') : TRest o w B C j CM x w' := by
  obtain ⟨m, hm, hf⟩ := h.flow
  exact ⟨h.inv, ⟨m, hm, hf.below hb⟩, h.came.below hb, bstep h.bel hb, h.glob.below hb h.glob.two⟩
def tpC (sx : Nat) (tm : Int) : Array Value := #[.int .u64 sx, .int .u64 0, .int .u64 0, .string ⟨#[]⟩, .int .u64 tm]
/-- where things lie in FlowTakes' round -/
structure TLay (w : World) (B : FB) (C M : Nat) : Prop where
  b : ∀ x ∈ B.l, w.heap.size ≤ x ∧ x < C
  c : w.heap.size ≤ C
  m : C < M
  two : 2 ≤ w.heap.size
/-- the middle of a round -/
structure TMid (w : World) (B : FB) (C M sx : Nat) (tm : Int) (s : Fl) (CM : Int → Bool) (k : Nat) (W : World) : Prop where
  flow : FlowAt W B k s
  came : Blk W C 35 (cmA CM)
  pk : Blk W M 24 (tpC sx tm)
  bel : Below w.heap.size w W
  glob : Glob W
section
variable {w : World} {B : FB} {C M sx : Nat} {tm : Int} {s s' : Fl} {CM : Int → Bool} {k k' : Nat} {W W' : World}
theorem TMid.below (h : TMid w B C M sx tm s CM k W) (hb : Below W.heap.size W W') : TMid w B C M sx tm s CM k W' := ⟨h.flow.below hb, h.came.below hb, h.pk.below hb, bstep h.bel hb, h.glob.below hb h.glob.two⟩
theorem TMid.only (h : TMid w B C M sx tm s CM k W) (L : TLay w B C M) (hf : FlowAt W' B k' s') (ho : Only B.l W W') : TMid w B C M sx tm s' CM k' W' :=
  ⟨hf, h.came.only ho (fun hm => by have := L.b _ hm; omega), h.pk.only ho (fun hm => by have := L.b _ hm; have := L.m; omega), h.bel.trans (ho.below (fun x hx => (L.b x hx).1) h.bel.size), h.glob.only ho (fun x hx => Nat.le_trans L.two (L.b x hx).1)⟩
theorem TMid.store (h : TMid w B C M sx tm s CM k W) (L : TLay w B C M) (hsx : sx < 20) : TMid w B C M sx tm s (upd CM sx true) k (W.setCell ⟨C, sx, none⟩ (.bool true)) := by
  have ho : Only [C] W (W.setCell ⟨C, sx, none⟩ (.bool true)) := (Only.refl [C] W).set_ (g := C) (i := sx) (by simp) (.bool true)
  have hm := L.m
  refine ⟨h.flow.kept ho (fun x hx hc => by have := L.b x hx; simp at hc; omega), ?_, h.pk.other C sx _ (by omega), h.bel.trans (ho.below (by simp; exact L.c) h.bel.size), h.glob.only ho (fun x hx => by have := L.two; have := L.c; simp at hx; omega)⟩
  rw [← cmA_set CM sx hsx]
  exact h.came.set_ sx _
theorem TMid.rest {o : Bool} {j : Nat} {x : Int} (h : TMid w B C M sx tm (TS o CM x) CM k W) (hI : TInv o CM x) (hk : k ≤ 2 * j) : TRest o w B C j CM x W := ⟨hI, ⟨k, hk, h.flow⟩, h.came, h.bel, h.glob⟩
end
theorem tp_r (sx : Nat) (h : sx < 20) : u64r (sx : Int) := ⟨by omega, by omega⟩
end Go.Proofs.YtpekbnkmnellpaaDoor
