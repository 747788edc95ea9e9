/- The table of this program's types, and that it is right. Written by a program of this claim. -/
import Derived.Test.YtadcjononmlofaaDoorChecked
import Derived.Test.YtadcjononmlofaaDoorKnCode
import Derived.KernelRfl
set_option autoImplicit false
namespace Go.Kn
open Go Go.Proofs

noncomputable def T : Ty := ⟨[
  (0, ⟨Tryd.t0.size, Tryd.t0.bytes, Tryd.t0.zero, Tryd.t0.desc⟩),
  (1, ⟨Tryd.t1.size, Tryd.t1.bytes, Tryd.t1.zero, Tryd.t1.desc⟩),
  (2, ⟨Tryd.t2.size, Tryd.t2.bytes, Tryd.t2.zero, Tryd.t2.desc⟩),
  (3, ⟨Tryd.t3.size, Tryd.t3.bytes, Tryd.t3.zero, Tryd.t3.desc⟩),
  (4, ⟨Tryd.t4.size, Tryd.t4.bytes, Tryd.t4.zero, Tryd.t4.desc⟩),
  (5, ⟨Tryd.t5.size, Tryd.t5.bytes, Tryd.t5.zero, Tryd.t5.desc⟩),
  (6, ⟨Tryd.t6.size, Tryd.t6.bytes, Tryd.t6.zero, Tryd.t5.desc⟩),
  (7, ⟨Tryd.t7.size, Tryd.t7.bytes, Tryd.t7.zero, Tryd.t7.desc⟩),
  (8, ⟨Tryd.t8.size, Tryd.t8.bytes, Tryd.t8.zero, Tryd.t7.desc⟩),
  (9, ⟨Tryd.t9.size, Tryd.t9.bytes, Tryd.t9.zero, Tryd.t9.desc⟩),
  (10, ⟨Tryd.t10.size, Tryd.t10.bytes, Tryd.t10.zero, Tryd.t9.desc⟩),
  (11, ⟨Tryd.t11.size, Tryd.t11.bytes, Tryd.t11.zero, Tryd.t9.desc⟩),
  (12, ⟨Tryd.t12.size, Tryd.t12.bytes, Tryd.t12.zero, Tryd.t12.desc⟩),
  (13, ⟨Tryd.t13.size, Tryd.t13.bytes, Tryd.t13.zero, Tryd.t13.desc⟩),
  (14, ⟨Tryd.t14.size, Tryd.t14.bytes, Tryd.t14.zero, Tryd.t13.desc⟩),
  (15, ⟨Tryd.t15.size, Tryd.t15.bytes, Tryd.t15.zero, Tryd.t15.desc⟩),
  (16, ⟨Tryd.t16.size, Tryd.t16.bytes, Tryd.t16.zero, Tryd.t16.desc⟩),
  (17, ⟨Tryd.t17.size, Tryd.t17.bytes, Tryd.t17.zero, Tryd.t17.desc⟩),
  (18, ⟨Tryd.t18.size, Tryd.t18.bytes, Tryd.t18.zero, Tryd.t18.desc⟩),
  (19, ⟨Tryd.t19.size, Tryd.t19.bytes, Tryd.t19.zero, Tryd.t18.desc⟩),
  (20, ⟨Tryd.t20.size, Tryd.t20.bytes, Tryd.t20.zero, Tryd.t20.desc⟩),
  (21, ⟨Tryd.t21.size, Tryd.t21.bytes, Tryd.t21.zero, Tryd.t21.desc⟩),
  (22, ⟨Tryd.t22.size, Tryd.t22.bytes, Tryd.t22.zero, Tryd.t22.desc⟩),
  (23, ⟨Tryd.t23.size, Tryd.t23.bytes, Tryd.t23.zero, Tryd.t23.desc⟩),
  (24, ⟨Tryd.t24.size, Tryd.t24.bytes, Tryd.t24.zero, Tryd.t23.desc⟩),
  (25, ⟨Tryd.t25.size, Tryd.t25.bytes, Tryd.t25.zero, Tryd.t25.desc⟩),
  (26, ⟨Tryd.t26.size, Tryd.t26.bytes, Tryd.t26.zero, Tryd.t26.desc⟩),
  (27, ⟨Tryd.t27.size, Tryd.t27.bytes, Tryd.t27.zero, Tryd.t27.desc⟩),
  (28, ⟨Tryd.t28.size, Tryd.t28.bytes, Tryd.t28.zero, Tryd.t28.desc⟩),
  (29, ⟨Tryd.t29.size, Tryd.t29.bytes, Tryd.t29.zero, Tryd.t29.desc⟩),
  (30, ⟨Tryd.t30.size, Tryd.t30.bytes, Tryd.t30.zero, Tryd.t29.desc⟩),
  (31, ⟨Tryd.t31.size, Tryd.t31.bytes, Tryd.t31.zero, Tryd.t3.desc⟩),
  (32, ⟨Tryd.t32.size, Tryd.t32.bytes, Tryd.t32.zero, Tryd.t32.desc⟩),
  (33, ⟨Tryd.t33.size, Tryd.t33.bytes, Tryd.t33.zero, Tryd.t33.desc⟩),
  (34, ⟨Tryd.t34.size, Tryd.t34.bytes, Tryd.t34.zero, Tryd.t34.desc⟩),
  (35, ⟨Tryd.t35.size, Tryd.t35.bytes, Tryd.t35.zero, Tryd.t35.desc⟩),
  (36, ⟨Tryd.t36.size, Tryd.t36.bytes, Tryd.t36.zero, Tryd.t36.desc⟩),
  (37, ⟨Tryd.t37.size, Tryd.t37.bytes, Tryd.t37.zero, Tryd.t37.desc⟩),
  (38, ⟨Tryd.t38.size, Tryd.t38.bytes, Tryd.t38.zero, Tryd.t38.desc⟩),
  (39, ⟨Tryd.t39.size, Tryd.t39.bytes, Tryd.t39.zero, Tryd.t39.desc⟩),
  (40, ⟨Tryd.t40.size, Tryd.t40.bytes, Tryd.t40.zero, Tryd.t40.desc⟩),
  (41, ⟨Tryd.t41.size, Tryd.t41.bytes, Tryd.t41.zero, Tryd.t40.desc⟩),
  (42, ⟨Tryd.t42.size, Tryd.t42.bytes, Tryd.t42.zero, Tryd.t42.desc⟩),
  (43, ⟨Tryd.t43.size, Tryd.t43.bytes, Tryd.t43.zero, Tryd.t43.desc⟩),
  (44, ⟨Tryd.t44.size, Tryd.t44.bytes, Tryd.t44.zero, Tryd.t44.desc⟩),
  (45, ⟨Tryd.t45.size, Tryd.t45.bytes, Tryd.t45.zero, Tryd.t45.desc⟩),
  (46, ⟨Tryd.t46.size, Tryd.t46.bytes, Tryd.t46.zero, Tryd.t46.desc⟩),
  (47, ⟨Tryd.t47.size, Tryd.t47.bytes, Tryd.t47.zero, Tryd.t47.desc⟩),
  (48, ⟨Tryd.t48.size, Tryd.t48.bytes, Tryd.t48.zero, Tryd.t48.desc⟩),
  (49, ⟨Tryd.t49.size, Tryd.t49.bytes, Tryd.t49.zero, Tryd.t49.desc⟩),
  (50, ⟨Tryd.t50.size, Tryd.t50.bytes, Tryd.t50.zero, Tryd.t50.desc⟩),
  (51, ⟨Tryd.t51.size, Tryd.t51.bytes, Tryd.t51.zero, Tryd.t51.desc⟩),
  (52, ⟨Tryd.t52.size, Tryd.t52.bytes, Tryd.t52.zero, Tryd.t52.desc⟩),
  (53, ⟨Tryd.t53.size, Tryd.t53.bytes, Tryd.t53.zero, Tryd.t53.desc⟩),
  (54, ⟨Tryd.t54.size, Tryd.t54.bytes, Tryd.t54.zero, Tryd.t54.desc⟩),
  (55, ⟨Tryd.t55.size, Tryd.t55.bytes, Tryd.t55.zero, Tryd.t55.desc⟩),
  (56, ⟨Tryd.t56.size, Tryd.t56.bytes, Tryd.t56.zero, Tryd.t56.desc⟩),
  (57, ⟨Tryd.t57.size, Tryd.t57.bytes, Tryd.t57.zero, Tryd.t56.desc⟩),
  (58, ⟨Tryd.t58.size, Tryd.t58.bytes, Tryd.t58.zero, Tryd.t58.desc⟩),
  (59, ⟨Tryd.t59.size, Tryd.t59.bytes, Tryd.t59.zero, Tryd.t59.desc⟩),
  (60, ⟨Tryd.t60.size, Tryd.t60.bytes, Tryd.t60.zero, Tryd.t60.desc⟩),
  (61, ⟨Tryd.t61.size, Tryd.t61.bytes, Tryd.t61.zero, Tryd.t61.desc⟩),
  (62, ⟨Tryd.t62.size, Tryd.t62.bytes, Tryd.t62.zero, Tryd.t62.desc⟩),
  (63, ⟨Tryd.t63.size, Tryd.t63.bytes, Tryd.t63.zero, Tryd.t62.desc⟩),
  (64, ⟨Tryd.t64.size, Tryd.t64.bytes, Tryd.t64.zero, Tryd.t64.desc⟩),
  (65, ⟨Tryd.t65.size, Tryd.t65.bytes, Tryd.t65.zero, Tryd.t65.desc⟩),
  (66, ⟨Tryd.t66.size, Tryd.t66.bytes, Tryd.t66.zero, Tryd.t66.desc⟩),
  (67, ⟨Tryd.t67.size, Tryd.t67.bytes, Tryd.t67.zero, Tryd.t67.desc⟩),
  (68, ⟨Tryd.t68.size, Tryd.t68.bytes, Tryd.t68.zero, Tryd.t68.desc⟩),
  (69, ⟨Tryd.t69.size, Tryd.t69.bytes, Tryd.t69.zero, Tryd.t69.desc⟩),
  (70, ⟨Tryd.t70.size, Tryd.t70.bytes, Tryd.t70.zero, Tryd.t70.desc⟩),
  (71, ⟨Tryd.t71.size, Tryd.t71.bytes, Tryd.t71.zero, Tryd.t70.desc⟩),
  (72, ⟨Tryd.t72.size, Tryd.t72.bytes, Tryd.t72.zero, Tryd.t72.desc⟩),
  (73, ⟨Tryd.t73.size, Tryd.t73.bytes, Tryd.t73.zero, Tryd.t73.desc⟩),
  (74, ⟨Tryd.t74.size, Tryd.t74.bytes, Tryd.t74.zero, Tryd.t74.desc⟩),
  (75, ⟨Tryd.t75.size, Tryd.t75.bytes, Tryd.t75.zero, Tryd.t75.desc⟩),
  (76, ⟨Tryd.t76.size, Tryd.t76.bytes, Tryd.t76.zero, Tryd.t75.desc⟩),
  (77, ⟨Tryd.t77.size, Tryd.t77.bytes, Tryd.t77.zero, Tryd.t77.desc⟩),
  (78, ⟨Tryd.t78.size, Tryd.t78.bytes, Tryd.t78.zero, Tryd.t78.desc⟩),
  (79, ⟨Tryd.t79.size, Tryd.t79.bytes, Tryd.t79.zero, Tryd.t79.desc⟩),
  (80, ⟨Tryd.t80.size, Tryd.t80.bytes, Tryd.t80.zero, Tryd.t79.desc⟩),
  (81, ⟨Tryd.t81.size, Tryd.t81.bytes, Tryd.t81.zero, Tryd.t81.desc⟩),
  (82, ⟨Tryd.t82.size, Tryd.t82.bytes, Tryd.t82.zero, Tryd.t82.desc⟩),
  (83, ⟨Tryd.t83.size, Tryd.t83.bytes, Tryd.t83.zero, Tryd.t83.desc⟩),
  (84, ⟨Tryd.t84.size, Tryd.t84.bytes, Tryd.t84.zero, Tryd.t84.desc⟩),
  (85, ⟨Tryd.t85.size, Tryd.t85.bytes, Tryd.t85.zero, Tryd.t85.desc⟩),
  (86, ⟨Tryd.t86.size, Tryd.t86.bytes, Tryd.t86.zero, Tryd.t86.desc⟩),
  (87, ⟨Tryd.t87.size, Tryd.t87.bytes, Tryd.t87.zero, Tryd.t87.desc⟩),
  (88, ⟨Tryd.t88.size, Tryd.t88.bytes, Tryd.t88.zero, Tryd.t88.desc⟩),
  (89, ⟨Tryd.t89.size, Tryd.t89.bytes, Tryd.t89.zero, Tryd.t89.desc⟩),
  (90, ⟨Tryd.t90.size, Tryd.t90.bytes, Tryd.t90.zero, Tryd.t90.desc⟩),
  (91, ⟨Tryd.t91.size, Tryd.t91.bytes, Tryd.t91.zero, Tryd.t91.desc⟩),
  (92, ⟨Tryd.t92.size, Tryd.t92.bytes, Tryd.t92.zero, Tryd.t92.desc⟩),
  (93, ⟨Tryd.t93.size, Tryd.t93.bytes, Tryd.t93.zero, Tryd.t93.desc⟩),
  (94, ⟨Tryd.t94.size, Tryd.t94.bytes, Tryd.t94.zero, Tryd.t93.desc⟩),
  (95, ⟨Tryd.t95.size, Tryd.t95.bytes, Tryd.t95.zero, Tryd.t95.desc⟩),
  (96, ⟨Tryd.t96.size, Tryd.t96.bytes, Tryd.t96.zero, Tryd.t96.desc⟩),
  (97, ⟨Tryd.t97.size, Tryd.t97.bytes, Tryd.t97.zero, Tryd.t97.desc⟩),
  (98, ⟨Tryd.t98.size, Tryd.t98.bytes, Tryd.t98.zero, Tryd.t98.desc⟩),
  (99, ⟨Tryd.t99.size, Tryd.t99.bytes, Tryd.t99.zero, Tryd.t99.desc⟩),
  (100, ⟨Tryd.t100.size, Tryd.t100.bytes, Tryd.t100.zero, Tryd.t100.desc⟩),
  (101, ⟨Tryd.t101.size, Tryd.t101.bytes, Tryd.t101.zero, Tryd.t101.desc⟩),
  (102, ⟨Tryd.t102.size, Tryd.t102.bytes, Tryd.t102.zero, Tryd.t102.desc⟩),
  (103, ⟨Tryd.t103.size, Tryd.t103.bytes, Tryd.t103.zero, Tryd.t103.desc⟩),
  (104, ⟨Tryd.t104.size, Tryd.t104.bytes, Tryd.t104.zero, Tryd.t104.desc⟩),
  (105, ⟨Tryd.t105.size, Tryd.t105.bytes, Tryd.t105.zero, Tryd.t105.desc⟩),
  (106, ⟨Tryd.t106.size, Tryd.t106.bytes, Tryd.t106.zero, Tryd.t106.desc⟩),
  (107, ⟨Tryd.t107.size, Tryd.t107.bytes, Tryd.t107.zero, Tryd.t107.desc⟩),
  (108, ⟨Tryd.t108.size, Tryd.t108.bytes, Tryd.t108.zero, Tryd.t108.desc⟩),
  (109, ⟨Tryd.t109.size, Tryd.t109.bytes, Tryd.t109.zero, Tryd.t109.desc⟩),
  (110, ⟨Tryd.t110.size, Tryd.t110.bytes, Tryd.t110.zero, Tryd.t110.desc⟩),
  (111, ⟨Tryd.t111.size, Tryd.t111.bytes, Tryd.t111.zero, Tryd.t111.desc⟩),
  (112, ⟨Tryd.t112.size, Tryd.t112.bytes, Tryd.t112.zero, Tryd.t112.desc⟩),
  (113, ⟨Tryd.t113.size, Tryd.t113.bytes, Tryd.t113.zero, Tryd.t113.desc⟩),
  (114, ⟨Tryd.t114.size, Tryd.t114.bytes, Tryd.t114.zero, Tryd.t114.desc⟩),
  (115, ⟨Tryd.t115.size, Tryd.t115.bytes, Tryd.t115.zero, Tryd.t115.desc⟩),
  (116, ⟨Tryd.t116.size, Tryd.t116.bytes, Tryd.t116.zero, Tryd.t116.desc⟩),
  (117, ⟨Tryd.t117.size, Tryd.t117.bytes, Tryd.t117.zero, Tryd.t117.desc⟩),
  (118, ⟨Tryd.t118.size, Tryd.t118.bytes, Tryd.t118.zero, Tryd.t118.desc⟩),
  (119, ⟨Tryd.t119.size, Tryd.t119.bytes, Tryd.t119.zero, Tryd.t119.desc⟩),
  (120, ⟨Tryd.t120.size, Tryd.t120.bytes, Tryd.t120.zero, Tryd.t120.desc⟩),
  (121, ⟨Tryd.t121.size, Tryd.t121.bytes, Tryd.t121.zero, Tryd.t121.desc⟩),
  (122, ⟨Tryd.t122.size, Tryd.t122.bytes, Tryd.t122.zero, Tryd.t122.desc⟩),
  (123, ⟨Tryd.t123.size, Tryd.t123.bytes, Tryd.t123.zero, Tryd.t123.desc⟩),
  (124, ⟨Tryd.t124.size, Tryd.t124.bytes, Tryd.t124.zero, Tryd.t124.desc⟩),
  (125, ⟨Tryd.t125.size, Tryd.t125.bytes, Tryd.t125.zero, Tryd.t125.desc⟩),
  (126, ⟨Tryd.t126.size, Tryd.t126.bytes, Tryd.t126.zero, Tryd.t126.desc⟩),
  (127, ⟨Tryd.t127.size, Tryd.t127.bytes, Tryd.t127.zero, Tryd.t127.desc⟩),
  (128, ⟨Tryd.t128.size, Tryd.t128.bytes, Tryd.t128.zero, Tryd.t128.desc⟩),
  (129, ⟨Tryd.t129.size, Tryd.t129.bytes, Tryd.t129.zero, Tryd.t129.desc⟩),
  (130, ⟨Tryd.t130.size, Tryd.t130.bytes, Tryd.t130.zero, Tryd.t130.desc⟩),
  (131, ⟨Tryd.t131.size, Tryd.t131.bytes, Tryd.t131.zero, Tryd.t131.desc⟩),
  (132, ⟨Tryd.t132.size, Tryd.t132.bytes, Tryd.t132.zero, Tryd.t132.desc⟩),
  (133, ⟨Tryd.t133.size, Tryd.t133.bytes, Tryd.t133.zero, Tryd.t132.desc⟩),
  (134, ⟨Tryd.t134.size, Tryd.t134.bytes, Tryd.t134.zero, Tryd.t134.desc⟩),
  (135, ⟨Tryd.t135.size, Tryd.t135.bytes, Tryd.t135.zero, Tryd.t135.desc⟩),
  (136, ⟨Tryd.t136.size, Tryd.t136.bytes, Tryd.t136.zero, Tryd.t135.desc⟩),
  (137, ⟨Tryd.t137.size, Tryd.t137.bytes, Tryd.t137.zero, Tryd.t137.desc⟩),
  (138, ⟨Tryd.t138.size, Tryd.t138.bytes, Tryd.t138.zero, Tryd.t138.desc⟩),
  (139, ⟨Tryd.t139.size, Tryd.t139.bytes, Tryd.t139.zero, Tryd.t139.desc⟩),
  (140, ⟨Tryd.t140.size, Tryd.t140.bytes, Tryd.t140.zero, Tryd.t140.desc⟩),
  (141, ⟨Tryd.t141.size, Tryd.t141.bytes, Tryd.t141.zero, Tryd.t141.desc⟩),
  (142, ⟨Tryd.t142.size, Tryd.t142.bytes, Tryd.t142.zero, Tryd.t142.desc⟩),
  (143, ⟨Tryd.t143.size, Tryd.t143.bytes, Tryd.t143.zero, Tryd.t143.desc⟩),
  (144, ⟨Tryd.t144.size, Tryd.t144.bytes, Tryd.t144.zero, Tryd.t144.desc⟩),
  (145, ⟨Tryd.t145.size, Tryd.t145.bytes, Tryd.t145.zero, Tryd.t145.desc⟩),
  (146, ⟨Tryd.t146.size, Tryd.t146.bytes, Tryd.t146.zero, Tryd.t146.desc⟩),
  (147, ⟨Tryd.t147.size, Tryd.t147.bytes, Tryd.t147.zero, Tryd.t147.desc⟩),
  (148, ⟨Tryd.t148.size, Tryd.t148.bytes, Tryd.t148.zero, Tryd.t148.desc⟩),
  (149, ⟨Tryd.t149.size, Tryd.t149.bytes, Tryd.t149.zero, Tryd.t149.desc⟩),
  (150, ⟨Tryd.t150.size, Tryd.t150.bytes, Tryd.t150.zero, Tryd.t150.desc⟩),
  (151, ⟨Tryd.t151.size, Tryd.t151.bytes, Tryd.t151.zero, Tryd.t151.desc⟩),
  (152, ⟨Tryd.t152.size, Tryd.t152.bytes, Tryd.t152.zero, Tryd.t152.desc⟩),
  (153, ⟨Tryd.t153.size, Tryd.t153.bytes, Tryd.t153.zero, Tryd.t153.desc⟩),
  (154, ⟨Tryd.t154.size, Tryd.t154.bytes, Tryd.t154.zero, Tryd.t154.desc⟩),
  (155, ⟨Tryd.t155.size, Tryd.t155.bytes, Tryd.t155.zero, Tryd.t155.desc⟩),
  (156, ⟨Tryd.t156.size, Tryd.t156.bytes, Tryd.t156.zero, Tryd.t155.desc⟩),
  (157, ⟨Tryd.t157.size, Tryd.t157.bytes, Tryd.t157.zero, Tryd.t157.desc⟩),
  (158, ⟨Tryd.t158.size, Tryd.t158.bytes, Tryd.t158.zero, Tryd.t158.desc⟩),
  (159, ⟨Tryd.t159.size, Tryd.t159.bytes, Tryd.t159.zero, Tryd.t158.desc⟩),
  (160, ⟨Tryd.t160.size, Tryd.t160.bytes, Tryd.t160.zero, Tryd.t5.desc⟩),
  (161, ⟨Tryd.t161.size, Tryd.t161.bytes, Tryd.t161.zero, Tryd.t5.desc⟩),
  (162, ⟨Tryd.t162.size, Tryd.t162.bytes, Tryd.t162.zero, Tryd.t162.desc⟩),
  (163, ⟨Tryd.t163.size, Tryd.t163.bytes, Tryd.t163.zero, Tryd.t21.desc⟩),
  (164, ⟨Tryd.t164.size, Tryd.t164.bytes, Tryd.t164.zero, Tryd.t21.desc⟩),
  (165, ⟨Tryd.t165.size, Tryd.t165.bytes, Tryd.t165.zero, Tryd.t165.desc⟩),
  (166, ⟨Tryd.t166.size, Tryd.t166.bytes, Tryd.t166.zero, Tryd.t165.desc⟩)], []⟩

theorem TOK.nil (P : Program) : TOK P ⟨[], []⟩ := fun _ _ h => nomatch h
theorem TOK.cons {P : Program} {l : List (Nat × TI)} {v : List Nat} {t : Nat} {ti : TI} (h1 : TOK1 P t ti) (h : TOK P ⟨l, v⟩) : TOK P ⟨(t, ti) :: l, v⟩ := by
  intro u ui e
  by_cases hu : u = t
  · subst hu
    have e' : lk u ((u, ti) :: l) = some ui := e
    rw [lk_cons_self] at e'; cases e'; exact h1
  · have e' : lk u ((t, ti) :: l) = some ui := e
    rw [lk_cons_other hu] at e'; exact h u ui e'
theorem TOK.vec {P : Program} {T : Ty} (h : TOK P T) (v : List Nat) : TOK P (T.vec v) := fun u ui e => h u ui e

theorem T_ok : TOK Tryd.prog T :=
  TOK.cons ⟨⟨Tryd.t0, by kernel_rfl, rfl, rfl, rfl⟩, by kernel_rfl⟩ <|
  TOK.cons ⟨⟨Tryd.t1, by kernel_rfl, rfl, rfl, rfl⟩, by kernel_rfl⟩ <|
  TOK.cons ⟨⟨Tryd.t2, by kernel_rfl, rfl, rfl, rfl⟩, by kernel_rfl⟩ <|
  TOK.cons ⟨⟨Tryd.t3, by kernel_rfl, rfl, rfl, rfl⟩, by kernel_rfl⟩ <|
  TOK.cons ⟨⟨Tryd.t4, by kernel_rfl, rfl, rfl, rfl⟩, by kernel_rfl⟩ <|
  TOK.cons ⟨⟨Tryd.t5, by kernel_rfl, rfl, rfl, rfl⟩, by kernel_rfl⟩ <|
  TOK.cons ⟨⟨Tryd.t6, by kernel_rfl, rfl, rfl, rfl⟩, by kernel_rfl⟩ <|
  TOK.cons ⟨⟨Tryd.t7, by kernel_rfl, rfl, rfl, rfl⟩, by kernel_rfl⟩ <|
  TOK.cons ⟨⟨Tryd.t8, by kernel_rfl, rfl, rfl, rfl⟩, by kernel_rfl⟩ <|
  TOK.cons ⟨⟨Tryd.t9, by kernel_rfl, rfl, rfl, rfl⟩, by kernel_rfl⟩ <|
  TOK.cons ⟨⟨Tryd.t10, by kernel_rfl, rfl, rfl, rfl⟩, by kernel_rfl⟩ <|
  TOK.cons ⟨⟨Tryd.t11, by kernel_rfl, rfl, rfl, rfl⟩, by kernel_rfl⟩ <|
  TOK.cons ⟨⟨Tryd.t12, by kernel_rfl, rfl, rfl, rfl⟩, by kernel_rfl⟩ <|
  TOK.cons ⟨⟨Tryd.t13, by kernel_rfl, rfl, rfl, rfl⟩, by kernel_rfl⟩ <|
  TOK.cons ⟨⟨Tryd.t14, by kernel_rfl, rfl, rfl, rfl⟩, by kernel_rfl⟩ <|
  TOK.cons ⟨⟨Tryd.t15, by kernel_rfl, rfl, rfl, rfl⟩, by kernel_rfl⟩ <|
  TOK.cons ⟨⟨Tryd.t16, by kernel_rfl, rfl, rfl, rfl⟩, by kernel_rfl⟩ <|
  TOK.cons ⟨⟨Tryd.t17, by kernel_rfl, rfl, rfl, rfl⟩, by kernel_rfl⟩ <|
  TOK.cons ⟨⟨Tryd.t18, by kernel_rfl, rfl, rfl, rfl⟩, by kernel_rfl⟩ <|
  TOK.cons ⟨⟨Tryd.t19, by kernel_rfl, rfl, rfl, rfl⟩, by kernel_rfl⟩ <|
  TOK.cons ⟨⟨Tryd.t20, by kernel_rfl, rfl, rfl, rfl⟩, by kernel_rfl⟩ <|
  TOK.cons ⟨⟨Tryd.t21, by kernel_rfl, rfl, rfl, rfl⟩, by kernel_rfl⟩ <|
  TOK.cons ⟨⟨Tryd.t22, by kernel_rfl, rfl, rfl, rfl⟩, by kernel_rfl⟩ <|
  TOK.cons ⟨⟨Tryd.t23, by kernel_rfl, rfl, rfl, rfl⟩, by kernel_rfl⟩ <|
  TOK.cons ⟨⟨Tryd.t24, by kernel_rfl, rfl, rfl, rfl⟩, by kernel_rfl⟩ <|
  TOK.cons ⟨⟨Tryd.t25, by kernel_rfl, rfl, rfl, rfl⟩, by kernel_rfl⟩ <|
  TOK.cons ⟨⟨Tryd.t26, by kernel_rfl, rfl, rfl, rfl⟩, by kernel_rfl⟩ <|
  TOK.cons ⟨⟨Tryd.t27, by kernel_rfl, rfl, rfl, rfl⟩, by kernel_rfl⟩ <|
  TOK.cons ⟨⟨Tryd.t28, by kernel_rfl, rfl, rfl, rfl⟩, by kernel_rfl⟩ <|
  TOK.cons ⟨⟨Tryd.t29, by kernel_rfl, rfl, rfl, rfl⟩, by kernel_rfl⟩ <|
  TOK.cons ⟨⟨Tryd.t30, by kernel_rfl, rfl, rfl, rfl⟩, by kernel_rfl⟩ <|
  TOK.cons ⟨⟨Tryd.t31, by kernel_rfl, rfl, rfl, rfl⟩, by kernel_rfl⟩ <|
  TOK.cons ⟨⟨Tryd.t32, by kernel_rfl, rfl, rfl, rfl⟩, by kernel_rfl⟩ <|
  TOK.cons ⟨⟨Tryd.t33, by kernel_rfl, rfl, rfl, rfl⟩, by kernel_rfl⟩ <|
  TOK.cons ⟨⟨Tryd.t34, by kernel_rfl, rfl, rfl, rfl⟩, by kernel_rfl⟩ <|
  TOK.cons ⟨⟨Tryd.t35, by kernel_rfl, rfl, rfl, rfl⟩, by kernel_rfl⟩ <|
  TOK.cons ⟨⟨Tryd.t36, by kernel_rfl, rfl, rfl, rfl⟩, by kernel_rfl⟩ <|
  TOK.cons ⟨⟨Tryd.t37, by kernel_rfl, rfl, rfl, rfl⟩, by kernel_rfl⟩ <|
  TOK.cons ⟨⟨Tryd.t38, by kernel_rfl, rfl, rfl, rfl⟩, by kernel_rfl⟩ <|
  TOK.cons ⟨⟨Tryd.t39, by kernel_rfl, rfl, rfl, rfl⟩, by kernel_rfl⟩ <|
  TOK.cons ⟨⟨Tryd.t40, by kernel_rfl, rfl, rfl, rfl⟩, by kernel_rfl⟩ <|
  TOK.cons ⟨⟨Tryd.t41, by kernel_rfl, rfl, rfl, rfl⟩, by kernel_rfl⟩ <|
  TOK.cons ⟨⟨Tryd.t42, by kernel_rfl, rfl, rfl, rfl⟩, by kernel_rfl⟩ <|
  TOK.cons ⟨⟨Tryd.t43, by kernel_rfl, rfl, rfl, rfl⟩, by kernel_rfl⟩ <|
  TOK.cons ⟨⟨Tryd.t44, by kernel_rfl, rfl, rfl, rfl⟩, by kernel_rfl⟩ <|
  TOK.cons ⟨⟨Tryd.t45, by kernel_rfl, rfl, rfl, rfl⟩, by kernel_rfl⟩ <|
  TOK.cons ⟨⟨Tryd.t46, by kernel_rfl, rfl, rfl, rfl⟩, by kernel_rfl⟩ <|
  TOK.cons ⟨⟨Tryd.t47, by kernel_rfl, rfl, rfl, rfl⟩, by kernel_rfl⟩ <|
  TOK.cons ⟨⟨Tryd.t48, by kernel_rfl, rfl, rfl, rfl⟩, by kernel_rfl⟩ <|
  TOK.cons ⟨⟨Tryd.t49, by kernel_rfl, rfl, rfl, rfl⟩, by kernel_rfl⟩ <|
  TOK.cons ⟨⟨Tryd.t50, by kernel_rfl, rfl, rfl, rfl⟩, by kernel_rfl⟩ <|
  TOK.cons ⟨⟨Tryd.t51, by kernel_rfl, rfl, rfl, rfl⟩, by kernel_rfl⟩ <|
  TOK.cons ⟨⟨Tryd.t52, by kernel_rfl, rfl, rfl, rfl⟩, by kernel_rfl⟩ <|
  TOK.cons ⟨⟨Tryd.t53, by kernel_rfl, rfl, rfl, rfl⟩, by kernel_rfl⟩ <|
  TOK.cons ⟨⟨Tryd.t54, by kernel_rfl, rfl, rfl, rfl⟩, by kernel_rfl⟩ <|
  TOK.cons ⟨⟨Tryd.t55, by kernel_rfl, rfl, rfl, rfl⟩, by kernel_rfl⟩ <|
  TOK.cons ⟨⟨Tryd.t56, by kernel_rfl, rfl, rfl, rfl⟩, by kernel_rfl⟩ <|
  TOK.cons ⟨⟨Tryd.t57, by kernel_rfl, rfl, rfl, rfl⟩, by kernel_rfl⟩ <|
  TOK.cons ⟨⟨Tryd.t58, by kernel_rfl, rfl, rfl, rfl⟩, by kernel_rfl⟩ <|
  TOK.cons ⟨⟨Tryd.t59, by kernel_rfl, rfl, rfl, rfl⟩, by kernel_rfl⟩ <|
  TOK.cons ⟨⟨Tryd.t60, by kernel_rfl, rfl, rfl, rfl⟩, by kernel_rfl⟩ <|
  TOK.cons ⟨⟨Tryd.t61, by kernel_rfl, rfl, rfl, rfl⟩, by kernel_rfl⟩ <|
  TOK.cons ⟨⟨Tryd.t62, by kernel_rfl, rfl, rfl, rfl⟩, by kernel_rfl⟩ <|
  TOK.cons ⟨⟨Tryd.t63, by kernel_rfl, rfl, rfl, rfl⟩, by kernel_rfl⟩ <|
  TOK.cons ⟨⟨Tryd.t64, by kernel_rfl, rfl, rfl, rfl⟩, by kernel_rfl⟩ <|
  TOK.cons ⟨⟨Tryd.t65, by kernel_rfl, rfl, rfl, rfl⟩, by kernel_rfl⟩ <|
  TOK.cons ⟨⟨Tryd.t66, by kernel_rfl, rfl, rfl, rfl⟩, by kernel_rfl⟩ <|
  TOK.cons ⟨⟨Tryd.t67, by kernel_rfl, rfl, rfl, rfl⟩, by kernel_rfl⟩ <|
  TOK.cons ⟨⟨Tryd.t68, by kernel_rfl, rfl, rfl, rfl⟩, by kernel_rfl⟩ <|
  TOK.cons ⟨⟨Tryd.t69, by kernel_rfl, rfl, rfl, rfl⟩, by kernel_rfl⟩ <|
  TOK.cons ⟨⟨Tryd.t70, by kernel_rfl, rfl, rfl, rfl⟩, by kernel_rfl⟩ <|
  TOK.cons ⟨⟨Tryd.t71, by kernel_rfl, rfl, rfl, rfl⟩, by kernel_rfl⟩ <|
  TOK.cons ⟨⟨Tryd.t72, by kernel_rfl, rfl, rfl, rfl⟩, by kernel_rfl⟩ <|
  TOK.cons ⟨⟨Tryd.t73, by kernel_rfl, rfl, rfl, rfl⟩, by kernel_rfl⟩ <|
  TOK.cons ⟨⟨Tryd.t74, by kernel_rfl, rfl, rfl, rfl⟩, by kernel_rfl⟩ <|
  TOK.cons ⟨⟨Tryd.t75, by kernel_rfl, rfl, rfl, rfl⟩, by kernel_rfl⟩ <|
  TOK.cons ⟨⟨Tryd.t76, by kernel_rfl, rfl, rfl, rfl⟩, by kernel_rfl⟩ <|
  TOK.cons ⟨⟨Tryd.t77, by kernel_rfl, rfl, rfl, rfl⟩, by kernel_rfl⟩ <|
  TOK.cons ⟨⟨Tryd.t78, by kernel_rfl, rfl, rfl, rfl⟩, by kernel_rfl⟩ <|
  TOK.cons ⟨⟨Tryd.t79, by kernel_rfl, rfl, rfl, rfl⟩, by kernel_rfl⟩ <|
  TOK.cons ⟨⟨Tryd.t80, by kernel_rfl, rfl, rfl, rfl⟩, by kernel_rfl⟩ <|
  TOK.cons ⟨⟨Tryd.t81, by kernel_rfl, rfl, rfl, rfl⟩, by kernel_rfl⟩ <|
  TOK.cons ⟨⟨Tryd.t82, by kernel_rfl, rfl, rfl, rfl⟩, by kernel_rfl⟩ <|
  TOK.cons ⟨⟨Tryd.t83, by kernel_rfl, rfl, rfl, rfl⟩, by kernel_rfl⟩ <|
  TOK.cons ⟨⟨Tryd.t84, by kernel_rfl, rfl, rfl, rfl⟩, by kernel_rfl⟩ <|
  TOK.cons ⟨⟨Tryd.t85, by kernel_rfl, rfl, rfl, rfl⟩, by kernel_rfl⟩ <|
  TOK.cons ⟨⟨Tryd.t86, by kernel_rfl, rfl, rfl, rfl⟩, by kernel_rfl⟩ <|
  TOK.cons ⟨⟨Tryd.t87, by kernel_rfl, rfl, rfl, rfl⟩, by kernel_rfl⟩ <|
  TOK.cons ⟨⟨Tryd.t88, by kernel_rfl, rfl, rfl, rfl⟩, by kernel_rfl⟩ <|
  TOK.cons ⟨⟨Tryd.t89, by kernel_rfl, rfl, rfl, rfl⟩, by kernel_rfl⟩ <|
  TOK.cons ⟨⟨Tryd.t90, by kernel_rfl, rfl, rfl, rfl⟩, by kernel_rfl⟩ <|
  TOK.cons ⟨⟨Tryd.t91, by kernel_rfl, rfl, rfl, rfl⟩, by kernel_rfl⟩ <|
  TOK.cons ⟨⟨Tryd.t92, by kernel_rfl, rfl, rfl, rfl⟩, by kernel_rfl⟩ <|
  TOK.cons ⟨⟨Tryd.t93, by kernel_rfl, rfl, rfl, rfl⟩, by kernel_rfl⟩ <|
  TOK.cons ⟨⟨Tryd.t94, by kernel_rfl, rfl, rfl, rfl⟩, by kernel_rfl⟩ <|
  TOK.cons ⟨⟨Tryd.t95, by kernel_rfl, rfl, rfl, rfl⟩, by kernel_rfl⟩ <|
  TOK.cons ⟨⟨Tryd.t96, by kernel_rfl, rfl, rfl, rfl⟩, by kernel_rfl⟩ <|
  TOK.cons ⟨⟨Tryd.t97, by kernel_rfl, rfl, rfl, rfl⟩, by kernel_rfl⟩ <|
  TOK.cons ⟨⟨Tryd.t98, by kernel_rfl, rfl, rfl, rfl⟩, by kernel_rfl⟩ <|
  TOK.cons ⟨⟨Tryd.t99, by kernel_rfl, rfl, rfl, rfl⟩, by kernel_rfl⟩ <|
  TOK.cons ⟨⟨Tryd.t100, by kernel_rfl, rfl, rfl, rfl⟩, by kernel_rfl⟩ <|
  TOK.cons ⟨⟨Tryd.t101, by kernel_rfl, rfl, rfl, rfl⟩, by kernel_rfl⟩ <|
  TOK.cons ⟨⟨Tryd.t102, by kernel_rfl, rfl, rfl, rfl⟩, by kernel_rfl⟩ <|
  TOK.cons ⟨⟨Tryd.t103, by kernel_rfl, rfl, rfl, rfl⟩, by kernel_rfl⟩ <|
  TOK.cons ⟨⟨Tryd.t104, by kernel_rfl, rfl, rfl, rfl⟩, by kernel_rfl⟩ <|
  TOK.cons ⟨⟨Tryd.t105, by kernel_rfl, rfl, rfl, rfl⟩, by kernel_rfl⟩ <|
  TOK.cons ⟨⟨Tryd.t106, by kernel_rfl, rfl, rfl, rfl⟩, by kernel_rfl⟩ <|
  TOK.cons ⟨⟨Tryd.t107, by kernel_rfl, rfl, rfl, rfl⟩, by kernel_rfl⟩ <|
  TOK.cons ⟨⟨Tryd.t108, by kernel_rfl, rfl, rfl, rfl⟩, by kernel_rfl⟩ <|
  TOK.cons ⟨⟨Tryd.t109, by kernel_rfl, rfl, rfl, rfl⟩, by kernel_rfl⟩ <|
  TOK.cons ⟨⟨Tryd.t110, by kernel_rfl, rfl, rfl, rfl⟩, by kernel_rfl⟩ <|
  TOK.cons ⟨⟨Tryd.t111, by kernel_rfl, rfl, rfl, rfl⟩, by kernel_rfl⟩ <|
  TOK.cons ⟨⟨Tryd.t112, by kernel_rfl, rfl, rfl, rfl⟩, by kernel_rfl⟩ <|
  TOK.cons ⟨⟨Tryd.t113, by kernel_rfl, rfl, rfl, rfl⟩, by kernel_rfl⟩ <|
  TOK.cons ⟨⟨Tryd.t114, by kernel_rfl, rfl, rfl, rfl⟩, by kernel_rfl⟩ <|
  TOK.cons ⟨⟨Tryd.t115, by kernel_rfl, rfl, rfl, rfl⟩, by kernel_rfl⟩ <|
  TOK.cons ⟨⟨Tryd.t116, by kernel_rfl, rfl, rfl, rfl⟩, by kernel_rfl⟩ <|
  TOK.cons ⟨⟨Tryd.t117, by kernel_rfl, rfl, rfl, rfl⟩, by kernel_rfl⟩ <|
  TOK.cons ⟨⟨Tryd.t118, by kernel_rfl, rfl, rfl, rfl⟩, by kernel_rfl⟩ <|
  TOK.cons ⟨⟨Tryd.t119, by kernel_rfl, rfl, rfl, rfl⟩, by kernel_rfl⟩ <|
  TOK.cons ⟨⟨Tryd.t120, by kernel_rfl, rfl, rfl, rfl⟩, by kernel_rfl⟩ <|
  TOK.cons ⟨⟨Tryd.t121, by kernel_rfl, rfl, rfl, rfl⟩, by kernel_rfl⟩ <|
  TOK.cons ⟨⟨Tryd.t122, by kernel_rfl, rfl, rfl, rfl⟩, by kernel_rfl⟩ <|
  TOK.cons ⟨⟨Tryd.t123, by kernel_rfl, rfl, rfl, rfl⟩, by kernel_rfl⟩ <|
  TOK.cons ⟨⟨Tryd.t124, by kernel_rfl, rfl, rfl, rfl⟩, by kernel_rfl⟩ <|
  TOK.cons ⟨⟨Tryd.t125, by kernel_rfl, rfl, rfl, rfl⟩, by kernel_rfl⟩ <|
  TOK.cons ⟨⟨Tryd.t126, by kernel_rfl, rfl, rfl, rfl⟩, by kernel_rfl⟩ <|
  TOK.cons ⟨⟨Tryd.t127, by kernel_rfl, rfl, rfl, rfl⟩, by kernel_rfl⟩ <|
  TOK.cons ⟨⟨Tryd.t128, by kernel_rfl, rfl, rfl, rfl⟩, by kernel_rfl⟩ <|
  TOK.cons ⟨⟨Tryd.t129, by kernel_rfl, rfl, rfl, rfl⟩, by kernel_rfl⟩ <|
  TOK.cons ⟨⟨Tryd.t130, by kernel_rfl, rfl, rfl, rfl⟩, by kernel_rfl⟩ <|
  TOK.cons ⟨⟨Tryd.t131, by kernel_rfl, rfl, rfl, rfl⟩, by kernel_rfl⟩ <|
  TOK.cons ⟨⟨Tryd.t132, by kernel_rfl, rfl, rfl, rfl⟩, by kernel_rfl⟩ <|
  TOK.cons ⟨⟨Tryd.t133, by kernel_rfl, rfl, rfl, rfl⟩, by kernel_rfl⟩ <|
  TOK.cons ⟨⟨Tryd.t134, by kernel_rfl, rfl, rfl, rfl⟩, by kernel_rfl⟩ <|
  TOK.cons ⟨⟨Tryd.t135, by kernel_rfl, rfl, rfl, rfl⟩, by kernel_rfl⟩ <|
  TOK.cons ⟨⟨Tryd.t136, by kernel_rfl, rfl, rfl, rfl⟩, by kernel_rfl⟩ <|
  TOK.cons ⟨⟨Tryd.t137, by kernel_rfl, rfl, rfl, rfl⟩, by kernel_rfl⟩ <|
  TOK.cons ⟨⟨Tryd.t138, by kernel_rfl, rfl, rfl, rfl⟩, by kernel_rfl⟩ <|
  TOK.cons ⟨⟨Tryd.t139, by kernel_rfl, rfl, rfl, rfl⟩, by kernel_rfl⟩ <|
  TOK.cons ⟨⟨Tryd.t140, by kernel_rfl, rfl, rfl, rfl⟩, by kernel_rfl⟩ <|
  TOK.cons ⟨⟨Tryd.t141, by kernel_rfl, rfl, rfl, rfl⟩, by kernel_rfl⟩ <|
  TOK.cons ⟨⟨Tryd.t142, by kernel_rfl, rfl, rfl, rfl⟩, by kernel_rfl⟩ <|
  TOK.cons ⟨⟨Tryd.t143, by kernel_rfl, rfl, rfl, rfl⟩, by kernel_rfl⟩ <|
  TOK.cons ⟨⟨Tryd.t144, by kernel_rfl, rfl, rfl, rfl⟩, by kernel_rfl⟩ <|
  TOK.cons ⟨⟨Tryd.t145, by kernel_rfl, rfl, rfl, rfl⟩, by kernel_rfl⟩ <|
  TOK.cons ⟨⟨Tryd.t146, by kernel_rfl, rfl, rfl, rfl⟩, by kernel_rfl⟩ <|
  TOK.cons ⟨⟨Tryd.t147, by kernel_rfl, rfl, rfl, rfl⟩, by kernel_rfl⟩ <|
  TOK.cons ⟨⟨Tryd.t148, by kernel_rfl, rfl, rfl, rfl⟩, by kernel_rfl⟩ <|
  TOK.cons ⟨⟨Tryd.t149, by kernel_rfl, rfl, rfl, rfl⟩, by kernel_rfl⟩ <|
  TOK.cons ⟨⟨Tryd.t150, by kernel_rfl, rfl, rfl, rfl⟩, by kernel_rfl⟩ <|
  TOK.cons ⟨⟨Tryd.t151, by kernel_rfl, rfl, rfl, rfl⟩, by kernel_rfl⟩ <|
  TOK.cons ⟨⟨Tryd.t152, by kernel_rfl, rfl, rfl, rfl⟩, by kernel_rfl⟩ <|
  TOK.cons ⟨⟨Tryd.t153, by kernel_rfl, rfl, rfl, rfl⟩, by kernel_rfl⟩ <|
  TOK.cons ⟨⟨Tryd.t154, by kernel_rfl, rfl, rfl, rfl⟩, by kernel_rfl⟩ <|
  TOK.cons ⟨⟨Tryd.t155, by kernel_rfl, rfl, rfl, rfl⟩, by kernel_rfl⟩ <|
  TOK.cons ⟨⟨Tryd.t156, by kernel_rfl, rfl, rfl, rfl⟩, by kernel_rfl⟩ <|
  TOK.cons ⟨⟨Tryd.t157, by kernel_rfl, rfl, rfl, rfl⟩, by kernel_rfl⟩ <|
  TOK.cons ⟨⟨Tryd.t158, by kernel_rfl, rfl, rfl, rfl⟩, by kernel_rfl⟩ <|
  TOK.cons ⟨⟨Tryd.t159, by kernel_rfl, rfl, rfl, rfl⟩, by kernel_rfl⟩ <|
  TOK.cons ⟨⟨Tryd.t160, by kernel_rfl, rfl, rfl, rfl⟩, by kernel_rfl⟩ <|
  TOK.cons ⟨⟨Tryd.t161, by kernel_rfl, rfl, rfl, rfl⟩, by kernel_rfl⟩ <|
  TOK.cons ⟨⟨Tryd.t162, by kernel_rfl, rfl, rfl, rfl⟩, by kernel_rfl⟩ <|
  TOK.cons ⟨⟨Tryd.t163, by kernel_rfl, rfl, rfl, rfl⟩, by kernel_rfl⟩ <|
  TOK.cons ⟨⟨Tryd.t164, by kernel_rfl, rfl, rfl, rfl⟩, by kernel_rfl⟩ <|
  TOK.cons ⟨⟨Tryd.t165, by kernel_rfl, rfl, rfl, rfl⟩, by kernel_rfl⟩ <|
  TOK.cons ⟨⟨Tryd.t166, by kernel_rfl, rfl, rfl, rfl⟩, by kernel_rfl⟩ <|
  TOK.nil _
end Go.Kn
