/-
  The table of the seat's types is the program's, but for two types that nothing of the seat's compares.
-/
import Derived.Test.YtjliobdjggmfeaaGreatDoorTab
import Derived.Test.YtjliobdjggmfeaaGreatDoorKA
import Derived.KernelRfl
set_option linter.unusedVariables false
set_option linter.unusedSimpArgs false
namespace Go.Sx
open Go.Proofs
noncomputable def tyL : List TypeInfo := [Tryz.t0, Tryz.t1, Tryz.t2, Tryz.t3, Tryz.t4, Tryz.t5, Tryz.t6, Tryz.t7, Tryz.t8, Tryz.t9, Tryz.t10, Tryz.t11, Tryz.t12, Tryz.t13, Tryz.t14, Tryz.t15, Tryz.t16, Tryz.t17, Tryz.t18, Tryz.t19, Tryz.t20, Tryz.t21, Tryz.t22, Tryz.t23, Tryz.t24, Tryz.t25, Tryz.t26, Tryz.t27, Tryz.t28, Tryz.t29, Tryz.t30, Tryz.t31, Tryz.t32, Tryz.t33, Tryz.t34, Tryz.t35, Tryz.t36, Tryz.t37, Tryz.t38, Tryz.t39, Tryz.t40, Tryz.t41, Tryz.t42, Tryz.t43, Tryz.t44, Tryz.t45, Tryz.t46, Tryz.t47, Tryz.t48, Tryz.t49, Tryz.t50, Tryz.t51, Tryz.t52, Tryz.t53, Tryz.t54, Tryz.t55, Tryz.t56, Tryz.t57, Tryz.t58, Tryz.t59, Tryz.t60, Tryz.t61, Tryz.t62, Tryz.t63, Tryz.t64, Tryz.t65, Tryz.t66, Tryz.t67, Tryz.t68, Tryz.t69, Tryz.t70, Tryz.t71, Tryz.t72, Tryz.t73, Tryz.t74, Tryz.t75, Tryz.t76, Tryz.t77, Tryz.t78, Tryz.t79, Tryz.t80, Tryz.t81, Tryz.t82, Tryz.t83, Tryz.t84, Tryz.t85, Tryz.t86, Tryz.t87, Tryz.t88, Tryz.t89, Tryz.t90, Tryz.t91, Tryz.t92, Tryz.t93, Tryz.t94, Tryz.t95, Tryz.t96, Tryz.t97, Tryz.t98, Tryz.t99, Tryz.t100, Tryz.t101, Tryz.t102, Tryz.t103, Tryz.t104, Tryz.t105, Tryz.t106, Tryz.t107, Tryz.t108, Tryz.t109, Tryz.t110, Tryz.t111, Tryz.t112, Tryz.t113, Tryz.t114, Tryz.t115, Tryz.t116, Tryz.t117, Tryz.t118, Tryz.t119, Tryz.t120, Tryz.t121, Tryz.t122, Tryz.t123, Tryz.t124, Tryz.t125, Tryz.t126, Tryz.t127, Tryz.t128, Tryz.t129, Tryz.t130, Tryz.t131, Tryz.t132, Tryz.t133, Tryz.t134, Tryz.t135, Tryz.t136, Tryz.t137, Tryz.t138, Tryz.t139, Tryz.t140, Tryz.t141, Tryz.t142, Tryz.t143, Tryz.t144, Tryz.t145, Tryz.t146, Tryz.t147, Tryz.t148, Tryz.t149, Tryz.t150, Tryz.t151, Tryz.t152, Tryz.t153, Tryz.t154, Tryz.t155, Tryz.t156, Tryz.t157, Tryz.t158, Tryz.t159, Tryz.t160, Tryz.t161, Tryz.t162, Tryz.t163, Tryz.t164, Tryz.t165, Tryz.t166, Tryz.t167, Tryz.t168, Tryz.t169, Tryz.t170, Tryz.t171, Tryz.t172, Tryz.t173, Tryz.t174, Tryz.t175, Tryz.t176, Tryz.t177, Tryz.t178, Tryz.t179, Tryz.t180, Tryz.t181, Tryz.t182, Tryz.t183, Tryz.t184, Tryz.t185, Tryz.t186, Tryz.t187, Tryz.t188, Tryz.t189, Tryz.t190, Tryz.t191, Tryz.t192, Tryz.t193, Tryz.t194, Tryz.t195, Tryz.t196, Tryz.t197, Tryz.t198, Tryz.t199, Tryz.t200, Tryz.t201, Tryz.t202, Tryz.t203, Tryz.t204, Tryz.t205, Tryz.t206, Tryz.t207, Tryz.t208, Tryz.t209, Tryz.t210, Tryz.t211, Tryz.t212, Tryz.t213, Tryz.t214, Tryz.t215, Tryz.t216, Tryz.t217, Tryz.t218, Tryz.t219, Tryz.t220, Tryz.t221, Tryz.t222, Tryz.t223, Tryz.t224, Tryz.t225, Tryz.t226, Tryz.t227, Tryz.t228, Tryz.t229, Tryz.t230, Tryz.t231, Tryz.t232, Tryz.t233, Tryz.t234, Tryz.t235, Tryz.t236, Tryz.t237, Tryz.t238, Tryz.t239, Tryz.t240, Tryz.t241, Tryz.t242, Tryz.t243, Tryz.t244, Tryz.t245, Tryz.t246, Tryz.t247, Tryz.t248, Tryz.t249, Tryz.t250, Tryz.t251, Tryz.t252, Tryz.t253, Tryz.t254, Tryz.t255, Tryz.t256, Tryz.t257, Tryz.t258, Tryz.t259, Tryz.t260, Tryz.t261, Tryz.t262, Tryz.t263, Tryz.t264, Tryz.t265, Tryz.t266, Tryz.t267, Tryz.t268, Tryz.t269, Tryz.t270, Tryz.t271, Tryz.t272, Tryz.t273, Tryz.t274, Tryz.t275, Tryz.t276, Tryz.t277, Tryz.t278, Tryz.t279, Tryz.t280, Tryz.t281, Tryz.t282, Tryz.t283, Tryz.t284, Tryz.t285, Tryz.t286, Tryz.t287, Tryz.t288, Tryz.t289, Tryz.t290, Tryz.t291, Tryz.t292, Tryz.t293, Tryz.t294, Tryz.t295, Tryz.t296, Tryz.t297, Tryz.t298, Tryz.t299, Tryz.t300, Tryz.t301, Tryz.t302, Tryz.t303, Tryz.t304, Tryz.t305, Tryz.t306, Tryz.t307, Tryz.t308, Tryz.t309, Tryz.t310, Tryz.t311, Tryz.t312, Tryz.t313, Tryz.t314, Tryz.t315, Tryz.t316, Tryz.t317, Tryz.t318, Tryz.t319, Tryz.t320, Tryz.t321, Tryz.t322, Tryz.t323, Tryz.t324, Tryz.t325, Tryz.t326, Tryz.t327, Tryz.t328, Tryz.t329, Tryz.t330, Tryz.t331, Tryz.t332, Tryz.t333, Tryz.t334, Tryz.t335, Tryz.t336, Tryz.t337, Tryz.t338, Tryz.t339, Tryz.t340, Tryz.t341, Tryz.t342, Tryz.t343, Tryz.t344, Tryz.t345, Tryz.t346, Tryz.t347, Tryz.t348, Tryz.t349, Tryz.t350, Tryz.t351, Tryz.t352, Tryz.t353, Tryz.t354, Tryz.t355, Tryz.t356, Tryz.t357, Tryz.t358, Tryz.t359, Tryz.t360, Tryz.t361, Tryz.t362, Tryz.t363, Tryz.t364, Tryz.t365, Tryz.t366, Tryz.t367, Tryz.t368, Tryz.t369, Tryz.t370, Tryz.t371, Tryz.t372, Tryz.t373, Tryz.t374, Tryz.t375, Tryz.t376, Tryz.t377, Tryz.t378, Tryz.t379, Tryz.t380, Tryz.t381, Tryz.t382, Tryz.t383, Tryz.t384, Tryz.t385]
theorem tyL_eq : Tryz.prog.types.toList = tyL := by kernel_rfl
noncomputable def tyN (k : Nat) : Option TypeInfo := onB (Nat.beq k 13 || Nat.beq k 14) none (nth tyL k)
theorem tyT_eq : tyT = trOf 6 tyN := by kernel_rfl
theorem ty_gen {P : Program} {l : List TypeInfo} (h1 : P.types.toList = l) {n : Nat} (hn : Nat.beq (lenL l) n = true) {t : Nat} {i : TypeInfo} (h : onB (Nat.beq t 13 || Nat.beq t 14) none (nth l t) = some i) : t < n ∧ P.info? t = some i := by
  rw [onB_eq] at h
  split at h
  · cases h
  · rw [nth_eq] at h
    have h3 := Nat.eq_of_beq_eq_true hn
    rw [lenL_eq] at h3
    refine ⟨by rw [← h3]; exact (List.getElem?_eq_some_iff.1 h).1, ?_⟩
    have h2 : P.types[t]? = some i := by rw [← Array.getElem?_toList, h1]; exact h
    unfold Tables.info?
    rw [if_pos (Array.getElem?_eq_some_iff.1 h2).1]
    exact h2
theorem tyL_len : Nat.beq (lenL tyL) 386 = true := by kernel_rfl
theorem ty_ok : ∀ t i, tyAt t = some i → t < 386 ∧ Tryz.prog.info? t = some i := by
  intro t i h
  unfold tyAt at h
  rw [tyT_eq] at h
  exact ty_gen tyL_eq tyL_len (get_trOf 6 tyN t i h)
theorem stA : allC (stC Tryz.prog tyAt) 386 = true := by kernel_rfl
theorem elA : allC (elC tyAt) 386 = true := by kernel_rfl
theorem fldA : allC (fldC tyAt) 386 = true := by kernel_rfl
theorem mixed : Tryz.prog.follows .mixedOrders = true := by kernel_rfl
end Go.Sx
