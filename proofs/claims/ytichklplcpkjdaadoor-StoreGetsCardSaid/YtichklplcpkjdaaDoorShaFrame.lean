/-
  A list of 91 things, written out.
-/
import Derived.Test.YtichklplcpkjdaaDoorBase
namespace Go.Proofs.YtichklplcpkjdaaDoor
theorem list_succ {α : Type} {l : List α} {n : Nat} (h : l.length = n + 1) : ∃ x l', l = x :: l' ∧ l'.length = n := by
  cases l with
  | nil => simp at h
  | cons x l => exact ⟨x, l, rfl, by simpa using h⟩
set_option maxRecDepth 100000 in
theorem elim91 {α : Type} {P : List α → Prop} (u : List α) (h : u.length = 91) (k : ∀ t0 t1 t2 t3 t4 t5 t6 t7 t8 t9 t10 t11 t12 t13 t14 t15 t16 t17 t18 t19 t20 t21 t22 t23 t24 t25 t26 t27 t28 t29 t30 t31 t32 t33 t34 t35 t36 t37 t38 t39 t40 t41 t42 t43 t44 t45 t46 t47 t48 t49 t50 t51 t52 t53 t54 t55 t56 t57 t58 t59 t60 t61 t62 t63 t64 t65 t66 t67 t68 t69 t70 t71 t72 t73 t74 t75 t76 t77 t78 t79 t80 t81 t82 t83 t84 t85 t86 t87 t88 t89 t90 : α, P [t0, t1, t2, t3, t4, t5, t6, t7, t8, t9, t10, t11, t12, t13, t14, t15, t16, t17, t18, t19, t20, t21, t22, t23, t24, t25, t26, t27, t28, t29, t30, t31, t32, t33, t34, t35, t36, t37, t38, t39, t40, t41, t42, t43, t44, t45, t46, t47, t48, t49, t50, t51, t52, t53, t54, t55, t56, t57, t58, t59, t60, t61, t62, t63, t64, t65, t66, t67, t68, t69, t70, t71, t72, t73, t74, t75, t76, t77, t78, t79, t80, t81, t82, t83, t84, t85, t86, t87, t88, t89, t90]) : P u := by
  obtain ⟨t0, u0, e0, h0⟩ := list_succ h
  obtain ⟨t1, u1, e1, h1⟩ := list_succ h0
  obtain ⟨t2, u2, e2, h2⟩ := list_succ h1
  obtain ⟨t3, u3, e3, h3⟩ := list_succ h2
  obtain ⟨t4, u4, e4, h4⟩ := list_succ h3
  obtain ⟨t5, u5, e5, h5⟩ := list_succ h4
  obtain ⟨t6, u6, e6, h6⟩ := list_succ h5
  obtain ⟨t7, u7, e7, h7⟩ := list_succ h6
  obtain ⟨t8, u8, e8, h8⟩ := list_succ h7
  obtain ⟨t9, u9, e9, h9⟩ := list_succ h8
  obtain ⟨t10, u10, e10, h10⟩ := list_succ h9
  obtain ⟨t11, u11, e11, h11⟩ := list_succ h10
  obtain ⟨t12, u12, e12, h12⟩ := list_succ h11
  obtain ⟨t13, u13, e13, h13⟩ := list_succ h12
  obtain ⟨t14, u14, e14, h14⟩ := list_succ h13
  obtain ⟨t15, u15, e15, h15⟩ := list_succ h14
  obtain ⟨t16, u16, e16, h16⟩ := list_succ h15
  obtain ⟨t17, u17, e17, h17⟩ := list_succ h16
  obtain ⟨t18, u18, e18, h18⟩ := list_succ h17
  obtain ⟨t19, u19, e19, h19⟩ := list_succ h18
  obtain ⟨t20, u20, e20, h20⟩ := list_succ h19
  obtain ⟨t21, u21, e21, h21⟩ := list_succ h20
  obtain ⟨t22, u22, e22, h22⟩ := list_succ h21
  obtain ⟨t23, u23, e23, h23⟩ := list_succ h22
  obtain ⟨t24, u24, e24, h24⟩ := list_succ h23
  obtain ⟨t25, u25, e25, h25⟩ := list_succ h24
  obtain ⟨t26, u26, e26, h26⟩ := list_succ h25
  obtain ⟨t27, u27, e27, h27⟩ := list_succ h26
  obtain ⟨t28, u28, e28, h28⟩ := list_succ h27
  obtain ⟨t29, u29, e29, h29⟩ := list_succ h28
  obtain ⟨t30, u30, e30, h30⟩ := list_succ h29
  obtain ⟨t31, u31, e31, h31⟩ := list_succ h30
  obtain ⟨t32, u32, e32, h32⟩ := list_succ h31
  obtain ⟨t33, u33, e33, h33⟩ := list_succ h32
  obtain ⟨t34, u34, e34, h34⟩ := list_succ h33
  obtain ⟨t35, u35, e35, h35⟩ := list_succ h34
  obtain ⟨t36, u36, e36, h36⟩ := list_succ h35
  obtain ⟨t37, u37, e37, h37⟩ := list_succ h36
  obtain ⟨t38, u38, e38, h38⟩ := list_succ h37
  obtain ⟨t39, u39, e39, h39⟩ := list_succ h38
  obtain ⟨t40, u40, e40, h40⟩ := list_succ h39
  obtain ⟨t41, u41, e41, h41⟩ := list_succ h40
  obtain ⟨t42, u42, e42, h42⟩ := list_succ h41
  obtain ⟨t43, u43, e43, h43⟩ := list_succ h42
  obtain ⟨t44, u44, e44, h44⟩ := list_succ h43
  obtain ⟨t45, u45, e45, h45⟩ := list_succ h44
  obtain ⟨t46, u46, e46, h46⟩ := list_succ h45
  obtain ⟨t47, u47, e47, h47⟩ := list_succ h46
  obtain ⟨t48, u48, e48, h48⟩ := list_succ h47
  obtain ⟨t49, u49, e49, h49⟩ := list_succ h48
  obtain ⟨t50, u50, e50, h50⟩ := list_succ h49
  obtain ⟨t51, u51, e51, h51⟩ := list_succ h50
  obtain ⟨t52, u52, e52, h52⟩ := list_succ h51
  obtain ⟨t53, u53, e53, h53⟩ := list_succ h52
  obtain ⟨t54, u54, e54, h54⟩ := list_succ h53
  obtain ⟨t55, u55, e55, h55⟩ := list_succ h54
  obtain ⟨t56, u56, e56, h56⟩ := list_succ h55
  obtain ⟨t57, u57, e57, h57⟩ := list_succ h56
  obtain ⟨t58, u58, e58, h58⟩ := list_succ h57
  obtain ⟨t59, u59, e59, h59⟩ := list_succ h58
  obtain ⟨t60, u60, e60, h60⟩ := list_succ h59
  obtain ⟨t61, u61, e61, h61⟩ := list_succ h60
  obtain ⟨t62, u62, e62, h62⟩ := list_succ h61
  obtain ⟨t63, u63, e63, h63⟩ := list_succ h62
  obtain ⟨t64, u64, e64, h64⟩ := list_succ h63
  obtain ⟨t65, u65, e65, h65⟩ := list_succ h64
  obtain ⟨t66, u66, e66, h66⟩ := list_succ h65
  obtain ⟨t67, u67, e67, h67⟩ := list_succ h66
  obtain ⟨t68, u68, e68, h68⟩ := list_succ h67
  obtain ⟨t69, u69, e69, h69⟩ := list_succ h68
  obtain ⟨t70, u70, e70, h70⟩ := list_succ h69
  obtain ⟨t71, u71, e71, h71⟩ := list_succ h70
  obtain ⟨t72, u72, e72, h72⟩ := list_succ h71
  obtain ⟨t73, u73, e73, h73⟩ := list_succ h72
  obtain ⟨t74, u74, e74, h74⟩ := list_succ h73
  obtain ⟨t75, u75, e75, h75⟩ := list_succ h74
  obtain ⟨t76, u76, e76, h76⟩ := list_succ h75
  obtain ⟨t77, u77, e77, h77⟩ := list_succ h76
  obtain ⟨t78, u78, e78, h78⟩ := list_succ h77
  obtain ⟨t79, u79, e79, h79⟩ := list_succ h78
  obtain ⟨t80, u80, e80, h80⟩ := list_succ h79
  obtain ⟨t81, u81, e81, h81⟩ := list_succ h80
  obtain ⟨t82, u82, e82, h82⟩ := list_succ h81
  obtain ⟨t83, u83, e83, h83⟩ := list_succ h82
  obtain ⟨t84, u84, e84, h84⟩ := list_succ h83
  obtain ⟨t85, u85, e85, h85⟩ := list_succ h84
  obtain ⟨t86, u86, e86, h86⟩ := list_succ h85
  obtain ⟨t87, u87, e87, h87⟩ := list_succ h86
  obtain ⟨t88, u88, e88, h88⟩ := list_succ h87
  obtain ⟨t89, u89, e89, h89⟩ := list_succ h88
  obtain ⟨t90, u90, e90, h90⟩ := list_succ h89
  obtain e91 := List.length_eq_zero_iff.1 h90
  have e : u = [t0, t1, t2, t3, t4, t5, t6, t7, t8, t9, t10, t11, t12, t13, t14, t15, t16, t17, t18, t19, t20, t21, t22, t23, t24, t25, t26, t27, t28, t29, t30, t31, t32, t33, t34, t35, t36, t37, t38, t39, t40, t41, t42, t43, t44, t45, t46, t47, t48, t49, t50, t51, t52, t53, t54, t55, t56, t57, t58, t59, t60, t61, t62, t63, t64, t65, t66, t67, t68, t69, t70, t71, t72, t73, t74, t75, t76, t77, t78, t79, t80, t81, t82, t83, t84, t85, t86, t87, t88, t89, t90] := by rw [e0, e1, e2, e3, e4, e5, e6, e7, e8, e9, e10, e11, e12, e13, e14, e15, e16, e17, e18, e19, e20, e21, e22, e23, e24, e25, e26, e27, e28, e29, e30, e31, e32, e33, e34, e35, e36, e37, e38, e39, e40, e41, e42, e43, e44, e45, e46, e47, e48, e49, e50, e51, e52, e53, e54, e55, e56, e57, e58, e59, e60, e61, e62, e63, e64, e65, e66, e67, e68, e69, e70, e71, e72, e73, e74, e75, e76, e77, e78, e79, e80, e81, e82, e83, e84, e85, e86, e87, e88, e89, e90, e91]
  exact e ▸ k t0 t1 t2 t3 t4 t5 t6 t7 t8 t9 t10 t11 t12 t13 t14 t15 t16 t17 t18 t19 t20 t21 t22 t23 t24 t25 t26 t27 t28 t29 t30 t31 t32 t33 t34 t35 t36 t37 t38 t39 t40 t41 t42 t43 t44 t45 t46 t47 t48 t49 t50 t51 t52 t53 t54 t55 t56 t57 t58 t59 t60 t61 t62 t63 t64 t65 t66 t67 t68 t69 t70 t71 t72 t73 t74 t75 t76 t77 t78 t79 t80 t81 t82 t83 t84 t85 t86 t87 t88 t89 t90
end Go.Proofs.YtichklplcpkjdaaDoor
