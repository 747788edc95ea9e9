/- The table of this program's types, and that it is right. Written by a program of this claim. -/
import Derived.Test.YtiibdlpfgmeifaaGreatDoorChecked
import Derived.Test.YtiibdlpfgmeifaaGreatDoorKn03
import Derived.KernelRfl
set_option autoImplicit false
namespace Go.Kn
open Go Go.Proofs
noncomputable def T : Ty := ⟨[
  (0, ⟨Tryz.t0.size, Tryz.t0.bytes, Tryz.t0.zero, Tryz.t0.desc⟩),
  (1, ⟨Tryz.t1.size, Tryz.t1.bytes, Tryz.t1.zero, Tryz.t1.desc⟩),
  (2, ⟨Tryz.t2.size, Tryz.t2.bytes, Tryz.t2.zero, Tryz.t2.desc⟩),
  (3, ⟨Tryz.t3.size, Tryz.t3.bytes, Tryz.t3.zero, Tryz.t3.desc⟩),
  (4, ⟨Tryz.t4.size, Tryz.t4.bytes, Tryz.t4.zero, Tryz.t4.desc⟩),
  (5, ⟨Tryz.t5.size, Tryz.t5.bytes, Tryz.t5.zero, Tryz.t5.desc⟩),
  (6, ⟨Tryz.t6.size, Tryz.t6.bytes, Tryz.t6.zero, Tryz.t5.desc⟩),
  (7, ⟨Tryz.t7.size, Tryz.t7.bytes, Tryz.t7.zero, Tryz.t7.desc⟩),
  (8, ⟨Tryz.t8.size, Tryz.t8.bytes, Tryz.t8.zero, Tryz.t7.desc⟩),
  (9, ⟨Tryz.t9.size, Tryz.t9.bytes, Tryz.t9.zero, Tryz.t9.desc⟩),
  (10, ⟨Tryz.t10.size, Tryz.t10.bytes, Tryz.t10.zero, Tryz.t9.desc⟩),
  (11, ⟨Tryz.t11.size, Tryz.t11.bytes, Tryz.t11.zero, Tryz.t9.desc⟩),
  (12, ⟨Tryz.t12.size, Tryz.t12.bytes, Tryz.t12.zero, Tryz.t12.desc⟩),
  (13, ⟨Tryz.t13.size, Tryz.t13.bytes, Tryz.t13.zero, Tryz.t13.desc⟩),
  (14, ⟨Tryz.t14.size, Tryz.t14.bytes, Tryz.t14.zero, Tryz.t13.desc⟩),
  (15, ⟨Tryz.t15.size, Tryz.t15.bytes, Tryz.t15.zero, Tryz.t15.desc⟩),
  (16, ⟨Tryz.t16.size, Tryz.t16.bytes, Tryz.t16.zero, Tryz.t16.desc⟩),
  (17, ⟨Tryz.t17.size, Tryz.t17.bytes, Tryz.t17.zero, Tryz.t17.desc⟩),
  (18, ⟨Tryz.t18.size, Tryz.t18.bytes, Tryz.t18.zero, Tryz.t18.desc⟩),
  (19, ⟨Tryz.t19.size, Tryz.t19.bytes, Tryz.t19.zero, Tryz.t18.desc⟩),
  (20, ⟨Tryz.t20.size, Tryz.t20.bytes, Tryz.t20.zero, Tryz.t20.desc⟩),
  (21, ⟨Tryz.t21.size, Tryz.t21.bytes, Tryz.t21.zero, Tryz.t21.desc⟩),
  (22, ⟨Tryz.t22.size, Tryz.t22.bytes, Tryz.t22.zero, Tryz.t22.desc⟩),
  (23, ⟨Tryz.t23.size, Tryz.t23.bytes, Tryz.t23.zero, Tryz.t23.desc⟩),
  (24, ⟨Tryz.t24.size, Tryz.t24.bytes, Tryz.t24.zero, Tryz.t24.desc⟩),
  (25, ⟨Tryz.t25.size, Tryz.t25.bytes, Tryz.t25.zero, Tryz.t24.desc⟩),
  (26, ⟨Tryz.t26.size, Tryz.t26.bytes, Tryz.t26.zero, Tryz.t26.desc⟩),
  (27, ⟨Tryz.t27.size, Tryz.t27.bytes, Tryz.t27.zero, Tryz.t27.desc⟩),
  (28, ⟨Tryz.t28.size, Tryz.t28.bytes, Tryz.t28.zero, Tryz.t28.desc⟩),
  (29, ⟨Tryz.t29.size, Tryz.t29.bytes, Tryz.t29.zero, Tryz.t29.desc⟩),
  (30, ⟨Tryz.t30.size, Tryz.t30.bytes, Tryz.t30.zero, Tryz.t29.desc⟩),
  (31, ⟨Tryz.t31.size, Tryz.t31.bytes, Tryz.t31.zero, Tryz.t31.desc⟩),
  (32, ⟨Tryz.t32.size, Tryz.t32.bytes, Tryz.t32.zero, Tryz.t32.desc⟩),
  (33, ⟨Tryz.t33.size, Tryz.t33.bytes, Tryz.t33.zero, Tryz.t33.desc⟩),
  (34, ⟨Tryz.t34.size, Tryz.t34.bytes, Tryz.t34.zero, Tryz.t34.desc⟩),
  (35, ⟨Tryz.t35.size, Tryz.t35.bytes, Tryz.t35.zero, Tryz.t34.desc⟩),
  (36, ⟨Tryz.t36.size, Tryz.t36.bytes, Tryz.t36.zero, Tryz.t36.desc⟩),
  (37, ⟨Tryz.t37.size, Tryz.t37.bytes, Tryz.t37.zero, Tryz.t36.desc⟩),
  (38, ⟨Tryz.t38.size, Tryz.t38.bytes, Tryz.t38.zero, Tryz.t38.desc⟩),
  (39, ⟨Tryz.t39.size, Tryz.t39.bytes, Tryz.t39.zero, Tryz.t39.desc⟩),
  (40, ⟨Tryz.t40.size, Tryz.t40.bytes, Tryz.t40.zero, Tryz.t40.desc⟩),
  (41, ⟨Tryz.t41.size, Tryz.t41.bytes, Tryz.t41.zero, Tryz.t40.desc⟩),
  (42, ⟨Tryz.t42.size, Tryz.t42.bytes, Tryz.t42.zero, Tryz.t42.desc⟩),
  (43, ⟨Tryz.t43.size, Tryz.t43.bytes, Tryz.t43.zero, Tryz.t43.desc⟩),
  (44, ⟨Tryz.t44.size, Tryz.t44.bytes, Tryz.t44.zero, Tryz.t43.desc⟩),
  (45, ⟨Tryz.t45.size, Tryz.t45.bytes, Tryz.t45.zero, Tryz.t45.desc⟩),
  (46, ⟨Tryz.t46.size, Tryz.t46.bytes, Tryz.t46.zero, Tryz.t46.desc⟩),
  (47, ⟨Tryz.t47.size, Tryz.t47.bytes, Tryz.t47.zero, Tryz.t47.desc⟩),
  (48, ⟨Tryz.t48.size, Tryz.t48.bytes, Tryz.t48.zero, Tryz.t3.desc⟩),
  (49, ⟨Tryz.t49.size, Tryz.t49.bytes, Tryz.t49.zero, Tryz.t49.desc⟩),
  (50, ⟨Tryz.t50.size, Tryz.t50.bytes, Tryz.t50.zero, Tryz.t50.desc⟩),
  (51, ⟨Tryz.t51.size, Tryz.t51.bytes, Tryz.t51.zero, Tryz.t51.desc⟩),
  (52, ⟨Tryz.t52.size, Tryz.t52.bytes, Tryz.t52.zero, Tryz.t52.desc⟩),
  (53, ⟨Tryz.t53.size, Tryz.t53.bytes, Tryz.t53.zero, Tryz.t53.desc⟩),
  (54, ⟨Tryz.t54.size, Tryz.t54.bytes, Tryz.t54.zero, Tryz.t54.desc⟩),
  (55, ⟨Tryz.t55.size, Tryz.t55.bytes, Tryz.t55.zero, Tryz.t55.desc⟩),
  (56, ⟨Tryz.t56.size, Tryz.t56.bytes, Tryz.t56.zero, Tryz.t56.desc⟩),
  (57, ⟨Tryz.t57.size, Tryz.t57.bytes, Tryz.t57.zero, Tryz.t57.desc⟩),
  (58, ⟨Tryz.t58.size, Tryz.t58.bytes, Tryz.t58.zero, Tryz.t58.desc⟩),
  (59, ⟨Tryz.t59.size, Tryz.t59.bytes, Tryz.t59.zero, Tryz.t59.desc⟩),
  (60, ⟨Tryz.t60.size, Tryz.t60.bytes, Tryz.t60.zero, Tryz.t60.desc⟩),
  (61, ⟨Tryz.t61.size, Tryz.t61.bytes, Tryz.t61.zero, Tryz.t61.desc⟩),
  (62, ⟨Tryz.t62.size, Tryz.t62.bytes, Tryz.t62.zero, Tryz.t62.desc⟩),
  (63, ⟨Tryz.t63.size, Tryz.t63.bytes, Tryz.t63.zero, Tryz.t63.desc⟩),
  (64, ⟨Tryz.t64.size, Tryz.t64.bytes, Tryz.t64.zero, Tryz.t64.desc⟩),
  (65, ⟨Tryz.t65.size, Tryz.t65.bytes, Tryz.t65.zero, Tryz.t65.desc⟩),
  (66, ⟨Tryz.t66.size, Tryz.t66.bytes, Tryz.t66.zero, Tryz.t66.desc⟩),
  (67, ⟨Tryz.t67.size, Tryz.t67.bytes, Tryz.t67.zero, Tryz.t67.desc⟩),
  (68, ⟨Tryz.t68.size, Tryz.t68.bytes, Tryz.t68.zero, Tryz.t68.desc⟩),
  (69, ⟨Tryz.t69.size, Tryz.t69.bytes, Tryz.t69.zero, Tryz.t69.desc⟩),
  (70, ⟨Tryz.t70.size, Tryz.t70.bytes, Tryz.t70.zero, Tryz.t70.desc⟩),
  (71, ⟨Tryz.t71.size, Tryz.t71.bytes, Tryz.t71.zero, Tryz.t71.desc⟩),
  (72, ⟨Tryz.t72.size, Tryz.t72.bytes, Tryz.t72.zero, Tryz.t72.desc⟩),
  (73, ⟨Tryz.t73.size, Tryz.t73.bytes, Tryz.t73.zero, Tryz.t73.desc⟩),
  (74, ⟨Tryz.t74.size, Tryz.t74.bytes, Tryz.t74.zero, Tryz.t74.desc⟩),
  (75, ⟨Tryz.t75.size, Tryz.t75.bytes, Tryz.t75.zero, Tryz.t75.desc⟩),
  (76, ⟨Tryz.t76.size, Tryz.t76.bytes, Tryz.t76.zero, Tryz.t76.desc⟩),
  (77, ⟨Tryz.t77.size, Tryz.t77.bytes, Tryz.t77.zero, Tryz.t76.desc⟩),
  (78, ⟨Tryz.t78.size, Tryz.t78.bytes, Tryz.t78.zero, Tryz.t78.desc⟩),
  (79, ⟨Tryz.t79.size, Tryz.t79.bytes, Tryz.t79.zero, Tryz.t79.desc⟩),
  (80, ⟨Tryz.t80.size, Tryz.t80.bytes, Tryz.t80.zero, Tryz.t80.desc⟩),
  (81, ⟨Tryz.t81.size, Tryz.t81.bytes, Tryz.t81.zero, Tryz.t81.desc⟩),
  (82, ⟨Tryz.t82.size, Tryz.t82.bytes, Tryz.t82.zero, Tryz.t82.desc⟩),
  (83, ⟨Tryz.t83.size, Tryz.t83.bytes, Tryz.t83.zero, Tryz.t83.desc⟩),
  (84, ⟨Tryz.t84.size, Tryz.t84.bytes, Tryz.t84.zero, Tryz.t83.desc⟩),
  (85, ⟨Tryz.t85.size, Tryz.t85.bytes, Tryz.t85.zero, Tryz.t85.desc⟩),
  (86, ⟨Tryz.t86.size, Tryz.t86.bytes, Tryz.t86.zero, Tryz.t86.desc⟩),
  (87, ⟨Tryz.t87.size, Tryz.t87.bytes, Tryz.t87.zero, Tryz.t87.desc⟩),
  (88, ⟨Tryz.t88.size, Tryz.t88.bytes, Tryz.t88.zero, Tryz.t88.desc⟩),
  (89, ⟨Tryz.t89.size, Tryz.t89.bytes, Tryz.t89.zero, Tryz.t89.desc⟩),
  (90, ⟨Tryz.t90.size, Tryz.t90.bytes, Tryz.t90.zero, Tryz.t90.desc⟩),
  (91, ⟨Tryz.t91.size, Tryz.t91.bytes, Tryz.t91.zero, Tryz.t91.desc⟩),
  (92, ⟨Tryz.t92.size, Tryz.t92.bytes, Tryz.t92.zero, Tryz.t92.desc⟩),
  (93, ⟨Tryz.t93.size, Tryz.t93.bytes, Tryz.t93.zero, Tryz.t93.desc⟩),
  (94, ⟨Tryz.t94.size, Tryz.t94.bytes, Tryz.t94.zero, Tryz.t94.desc⟩),
  (95, ⟨Tryz.t95.size, Tryz.t95.bytes, Tryz.t95.zero, Tryz.t95.desc⟩),
  (96, ⟨Tryz.t96.size, Tryz.t96.bytes, Tryz.t96.zero, Tryz.t96.desc⟩),
  (97, ⟨Tryz.t97.size, Tryz.t97.bytes, Tryz.t97.zero, Tryz.t97.desc⟩),
  (98, ⟨Tryz.t98.size, Tryz.t98.bytes, Tryz.t98.zero, Tryz.t98.desc⟩),
  (99, ⟨Tryz.t99.size, Tryz.t99.bytes, Tryz.t99.zero, Tryz.t99.desc⟩),
  (100, ⟨Tryz.t100.size, Tryz.t100.bytes, Tryz.t100.zero, Tryz.t27.desc⟩),
  (101, ⟨Tryz.t101.size, Tryz.t101.bytes, Tryz.t101.zero, Tryz.t101.desc⟩),
  (102, ⟨Tryz.t102.size, Tryz.t102.bytes, Tryz.t102.zero, Tryz.t102.desc⟩),
  (103, ⟨Tryz.t103.size, Tryz.t103.bytes, Tryz.t103.zero, Tryz.t103.desc⟩),
  (104, ⟨Tryz.t104.size, Tryz.t104.bytes, Tryz.t104.zero, Tryz.t104.desc⟩),
  (105, ⟨Tryz.t105.size, Tryz.t105.bytes, Tryz.t105.zero, Tryz.t105.desc⟩),
  (106, ⟨Tryz.t106.size, Tryz.t106.bytes, Tryz.t106.zero, Tryz.t106.desc⟩),
  (107, ⟨Tryz.t107.size, Tryz.t107.bytes, Tryz.t107.zero, Tryz.t106.desc⟩),
  (108, ⟨Tryz.t108.size, Tryz.t108.bytes, Tryz.t108.zero, Tryz.t108.desc⟩),
  (109, ⟨Tryz.t109.size, Tryz.t109.bytes, Tryz.t109.zero, Tryz.t109.desc⟩),
  (110, ⟨Tryz.t110.size, Tryz.t110.bytes, Tryz.t110.zero, Tryz.t109.desc⟩),
  (111, ⟨Tryz.t111.size, Tryz.t111.bytes, Tryz.t111.zero, Tryz.t111.desc⟩),
  (112, ⟨Tryz.t112.size, Tryz.t112.bytes, Tryz.t112.zero, Tryz.t111.desc⟩),
  (113, ⟨Tryz.t113.size, Tryz.t113.bytes, Tryz.t113.zero, Tryz.t113.desc⟩),
  (114, ⟨Tryz.t114.size, Tryz.t114.bytes, Tryz.t114.zero, Tryz.t114.desc⟩),
  (115, ⟨Tryz.t115.size, Tryz.t115.bytes, Tryz.t115.zero, Tryz.t114.desc⟩),
  (116, ⟨Tryz.t116.size, Tryz.t116.bytes, Tryz.t116.zero, Tryz.t116.desc⟩),
  (117, ⟨Tryz.t117.size, Tryz.t117.bytes, Tryz.t117.zero, Tryz.t117.desc⟩),
  (118, ⟨Tryz.t118.size, Tryz.t118.bytes, Tryz.t118.zero, Tryz.t118.desc⟩),
  (119, ⟨Tryz.t119.size, Tryz.t119.bytes, Tryz.t119.zero, Tryz.t119.desc⟩),
  (120, ⟨Tryz.t120.size, Tryz.t120.bytes, Tryz.t120.zero, Tryz.t119.desc⟩),
  (121, ⟨Tryz.t121.size, Tryz.t121.bytes, Tryz.t121.zero, Tryz.t121.desc⟩),
  (122, ⟨Tryz.t122.size, Tryz.t122.bytes, Tryz.t122.zero, Tryz.t122.desc⟩),
  (123, ⟨Tryz.t123.size, Tryz.t123.bytes, Tryz.t123.zero, Tryz.t123.desc⟩),
  (124, ⟨Tryz.t124.size, Tryz.t124.bytes, Tryz.t124.zero, Tryz.t123.desc⟩),
  (125, ⟨Tryz.t125.size, Tryz.t125.bytes, Tryz.t125.zero, Tryz.t125.desc⟩),
  (126, ⟨Tryz.t126.size, Tryz.t126.bytes, Tryz.t126.zero, Tryz.t126.desc⟩),
  (127, ⟨Tryz.t127.size, Tryz.t127.bytes, Tryz.t127.zero, Tryz.t127.desc⟩),
  (128, ⟨Tryz.t128.size, Tryz.t128.bytes, Tryz.t128.zero, Tryz.t128.desc⟩),
  (129, ⟨Tryz.t129.size, Tryz.t129.bytes, Tryz.t129.zero, Tryz.t128.desc⟩),
  (130, ⟨Tryz.t130.size, Tryz.t130.bytes, Tryz.t130.zero, Tryz.t130.desc⟩),
  (131, ⟨Tryz.t131.size, Tryz.t131.bytes, Tryz.t131.zero, Tryz.t131.desc⟩),
  (132, ⟨Tryz.t132.size, Tryz.t132.bytes, Tryz.t132.zero, Tryz.t132.desc⟩),
  (133, ⟨Tryz.t133.size, Tryz.t133.bytes, Tryz.t133.zero, Tryz.t133.desc⟩),
  (134, ⟨Tryz.t134.size, Tryz.t134.bytes, Tryz.t134.zero, Tryz.t134.desc⟩),
  (135, ⟨Tryz.t135.size, Tryz.t135.bytes, Tryz.t135.zero, Tryz.t135.desc⟩),
  (136, ⟨Tryz.t136.size, Tryz.t136.bytes, Tryz.t136.zero, Tryz.t136.desc⟩),
  (137, ⟨Tryz.t137.size, Tryz.t137.bytes, Tryz.t137.zero, Tryz.t137.desc⟩),
  (138, ⟨Tryz.t138.size, Tryz.t138.bytes, Tryz.t138.zero, Tryz.t138.desc⟩),
  (139, ⟨Tryz.t139.size, Tryz.t139.bytes, Tryz.t139.zero, Tryz.t139.desc⟩),
  (140, ⟨Tryz.t140.size, Tryz.t140.bytes, Tryz.t140.zero, Tryz.t140.desc⟩),
  (141, ⟨Tryz.t141.size, Tryz.t141.bytes, Tryz.t141.zero, Tryz.t141.desc⟩),
  (142, ⟨Tryz.t142.size, Tryz.t142.bytes, Tryz.t142.zero, Tryz.t142.desc⟩),
  (143, ⟨Tryz.t143.size, Tryz.t143.bytes, Tryz.t143.zero, Tryz.t143.desc⟩),
  (144, ⟨Tryz.t144.size, Tryz.t144.bytes, Tryz.t144.zero, Tryz.t144.desc⟩),
  (145, ⟨Tryz.t145.size, Tryz.t145.bytes, Tryz.t145.zero, Tryz.t145.desc⟩),
  (146, ⟨Tryz.t146.size, Tryz.t146.bytes, Tryz.t146.zero, Tryz.t146.desc⟩),
  (147, ⟨Tryz.t147.size, Tryz.t147.bytes, Tryz.t147.zero, Tryz.t147.desc⟩),
  (148, ⟨Tryz.t148.size, Tryz.t148.bytes, Tryz.t148.zero, Tryz.t148.desc⟩),
  (149, ⟨Tryz.t149.size, Tryz.t149.bytes, Tryz.t149.zero, Tryz.t149.desc⟩),
  (150, ⟨Tryz.t150.size, Tryz.t150.bytes, Tryz.t150.zero, Tryz.t150.desc⟩),
  (151, ⟨Tryz.t151.size, Tryz.t151.bytes, Tryz.t151.zero, Tryz.t151.desc⟩),
  (152, ⟨Tryz.t152.size, Tryz.t152.bytes, Tryz.t152.zero, Tryz.t152.desc⟩),
  (153, ⟨Tryz.t153.size, Tryz.t153.bytes, Tryz.t153.zero, Tryz.t153.desc⟩),
  (154, ⟨Tryz.t154.size, Tryz.t154.bytes, Tryz.t154.zero, Tryz.t154.desc⟩),
  (155, ⟨Tryz.t155.size, Tryz.t155.bytes, Tryz.t155.zero, Tryz.t155.desc⟩),
  (156, ⟨Tryz.t156.size, Tryz.t156.bytes, Tryz.t156.zero, Tryz.t155.desc⟩),
  (157, ⟨Tryz.t157.size, Tryz.t157.bytes, Tryz.t157.zero, Tryz.t157.desc⟩),
  (158, ⟨Tryz.t158.size, Tryz.t158.bytes, Tryz.t158.zero, Tryz.t158.desc⟩),
  (159, ⟨Tryz.t159.size, Tryz.t159.bytes, Tryz.t159.zero, Tryz.t159.desc⟩),
  (160, ⟨Tryz.t160.size, Tryz.t160.bytes, Tryz.t160.zero, Tryz.t160.desc⟩),
  (161, ⟨Tryz.t161.size, Tryz.t161.bytes, Tryz.t161.zero, Tryz.t161.desc⟩),
  (162, ⟨Tryz.t162.size, Tryz.t162.bytes, Tryz.t162.zero, Tryz.t162.desc⟩),
  (163, ⟨Tryz.t163.size, Tryz.t163.bytes, Tryz.t163.zero, Tryz.t163.desc⟩),
  (164, ⟨Tryz.t164.size, Tryz.t164.bytes, Tryz.t164.zero, Tryz.t164.desc⟩),
  (165, ⟨Tryz.t165.size, Tryz.t165.bytes, Tryz.t165.zero, Tryz.t165.desc⟩),
  (166, ⟨Tryz.t166.size, Tryz.t166.bytes, Tryz.t166.zero, Tryz.t165.desc⟩),
  (167, ⟨Tryz.t167.size, Tryz.t167.bytes, Tryz.t167.zero, Tryz.t167.desc⟩),
  (168, ⟨Tryz.t168.size, Tryz.t168.bytes, Tryz.t168.zero, Tryz.t168.desc⟩),
  (169, ⟨Tryz.t169.size, Tryz.t169.bytes, Tryz.t169.zero, Tryz.t169.desc⟩),
  (170, ⟨Tryz.t170.size, Tryz.t170.bytes, Tryz.t170.zero, Tryz.t170.desc⟩),
  (171, ⟨Tryz.t171.size, Tryz.t171.bytes, Tryz.t171.zero, Tryz.t171.desc⟩),
  (172, ⟨Tryz.t172.size, Tryz.t172.bytes, Tryz.t172.zero, Tryz.t172.desc⟩),
  (173, ⟨Tryz.t173.size, Tryz.t173.bytes, Tryz.t173.zero, Tryz.t173.desc⟩),
  (174, ⟨Tryz.t174.size, Tryz.t174.bytes, Tryz.t174.zero, Tryz.t174.desc⟩),
  (175, ⟨Tryz.t175.size, Tryz.t175.bytes, Tryz.t175.zero, Tryz.t175.desc⟩),
  (176, ⟨Tryz.t176.size, Tryz.t176.bytes, Tryz.t176.zero, Tryz.t176.desc⟩),
  (177, ⟨Tryz.t177.size, Tryz.t177.bytes, Tryz.t177.zero, Tryz.t177.desc⟩),
  (178, ⟨Tryz.t178.size, Tryz.t178.bytes, Tryz.t178.zero, Tryz.t177.desc⟩),
  (179, ⟨Tryz.t179.size, Tryz.t179.bytes, Tryz.t179.zero, Tryz.t179.desc⟩),
  (180, ⟨Tryz.t180.size, Tryz.t180.bytes, Tryz.t180.zero, Tryz.t180.desc⟩),
  (181, ⟨Tryz.t181.size, Tryz.t181.bytes, Tryz.t181.zero, Tryz.t181.desc⟩),
  (182, ⟨Tryz.t182.size, Tryz.t182.bytes, Tryz.t182.zero, Tryz.t182.desc⟩),
  (183, ⟨Tryz.t183.size, Tryz.t183.bytes, Tryz.t183.zero, Tryz.t183.desc⟩),
  (184, ⟨Tryz.t184.size, Tryz.t184.bytes, Tryz.t184.zero, Tryz.t184.desc⟩),
  (185, ⟨Tryz.t185.size, Tryz.t185.bytes, Tryz.t185.zero, Tryz.t185.desc⟩),
  (186, ⟨Tryz.t186.size, Tryz.t186.bytes, Tryz.t186.zero, Tryz.t186.desc⟩),
  (187, ⟨Tryz.t187.size, Tryz.t187.bytes, Tryz.t187.zero, Tryz.t187.desc⟩),
  (188, ⟨Tryz.t188.size, Tryz.t188.bytes, Tryz.t188.zero, Tryz.t188.desc⟩),
  (189, ⟨Tryz.t189.size, Tryz.t189.bytes, Tryz.t189.zero, Tryz.t189.desc⟩),
  (190, ⟨Tryz.t190.size, Tryz.t190.bytes, Tryz.t190.zero, Tryz.t190.desc⟩),
  (191, ⟨Tryz.t191.size, Tryz.t191.bytes, Tryz.t191.zero, Tryz.t191.desc⟩),
  (192, ⟨Tryz.t192.size, Tryz.t192.bytes, Tryz.t192.zero, Tryz.t192.desc⟩),
  (193, ⟨Tryz.t193.size, Tryz.t193.bytes, Tryz.t193.zero, Tryz.t193.desc⟩),
  (194, ⟨Tryz.t194.size, Tryz.t194.bytes, Tryz.t194.zero, Tryz.t194.desc⟩),
  (195, ⟨Tryz.t195.size, Tryz.t195.bytes, Tryz.t195.zero, Tryz.t195.desc⟩),
  (196, ⟨Tryz.t196.size, Tryz.t196.bytes, Tryz.t196.zero, Tryz.t196.desc⟩),
  (197, ⟨Tryz.t197.size, Tryz.t197.bytes, Tryz.t197.zero, Tryz.t197.desc⟩),
  (198, ⟨Tryz.t198.size, Tryz.t198.bytes, Tryz.t198.zero, Tryz.t198.desc⟩),
  (199, ⟨Tryz.t199.size, Tryz.t199.bytes, Tryz.t199.zero, Tryz.t199.desc⟩),
  (200, ⟨Tryz.t200.size, Tryz.t200.bytes, Tryz.t200.zero, Tryz.t200.desc⟩),
  (201, ⟨Tryz.t201.size, Tryz.t201.bytes, Tryz.t201.zero, Tryz.t201.desc⟩),
  (202, ⟨Tryz.t202.size, Tryz.t202.bytes, Tryz.t202.zero, Tryz.t202.desc⟩),
  (203, ⟨Tryz.t203.size, Tryz.t203.bytes, Tryz.t203.zero, Tryz.t202.desc⟩),
  (204, ⟨Tryz.t204.size, Tryz.t204.bytes, Tryz.t204.zero, Tryz.t204.desc⟩),
  (205, ⟨Tryz.t205.size, Tryz.t205.bytes, Tryz.t205.zero, Tryz.t205.desc⟩),
  (206, ⟨Tryz.t206.size, Tryz.t206.bytes, Tryz.t206.zero, Tryz.t205.desc⟩),
  (207, ⟨Tryz.t207.size, Tryz.t207.bytes, Tryz.t207.zero, Tryz.t207.desc⟩),
  (208, ⟨Tryz.t208.size, Tryz.t208.bytes, Tryz.t208.zero, Tryz.t208.desc⟩),
  (209, ⟨Tryz.t209.size, Tryz.t209.bytes, Tryz.t209.zero, Tryz.t209.desc⟩),
  (210, ⟨Tryz.t210.size, Tryz.t210.bytes, Tryz.t210.zero, Tryz.t210.desc⟩),
  (211, ⟨Tryz.t211.size, Tryz.t211.bytes, Tryz.t211.zero, Tryz.t211.desc⟩),
  (212, ⟨Tryz.t212.size, Tryz.t212.bytes, Tryz.t212.zero, Tryz.t212.desc⟩),
  (213, ⟨Tryz.t213.size, Tryz.t213.bytes, Tryz.t213.zero, Tryz.t213.desc⟩),
  (214, ⟨Tryz.t214.size, Tryz.t214.bytes, Tryz.t214.zero, Tryz.t214.desc⟩),
  (215, ⟨Tryz.t215.size, Tryz.t215.bytes, Tryz.t215.zero, Tryz.t215.desc⟩),
  (216, ⟨Tryz.t216.size, Tryz.t216.bytes, Tryz.t216.zero, Tryz.t216.desc⟩),
  (217, ⟨Tryz.t217.size, Tryz.t217.bytes, Tryz.t217.zero, Tryz.t217.desc⟩),
  (218, ⟨Tryz.t218.size, Tryz.t218.bytes, Tryz.t218.zero, Tryz.t218.desc⟩),
  (219, ⟨Tryz.t219.size, Tryz.t219.bytes, Tryz.t219.zero, Tryz.t219.desc⟩),
  (220, ⟨Tryz.t220.size, Tryz.t220.bytes, Tryz.t220.zero, Tryz.t220.desc⟩),
  (221, ⟨Tryz.t221.size, Tryz.t221.bytes, Tryz.t221.zero, Tryz.t221.desc⟩),
  (222, ⟨Tryz.t222.size, Tryz.t222.bytes, Tryz.t222.zero, Tryz.t222.desc⟩),
  (223, ⟨Tryz.t223.size, Tryz.t223.bytes, Tryz.t223.zero, Tryz.t223.desc⟩),
  (224, ⟨Tryz.t224.size, Tryz.t224.bytes, Tryz.t224.zero, Tryz.t224.desc⟩),
  (225, ⟨Tryz.t225.size, Tryz.t225.bytes, Tryz.t225.zero, Tryz.t225.desc⟩),
  (226, ⟨Tryz.t226.size, Tryz.t226.bytes, Tryz.t226.zero, Tryz.t226.desc⟩),
  (227, ⟨Tryz.t227.size, Tryz.t227.bytes, Tryz.t227.zero, Tryz.t226.desc⟩),
  (228, ⟨Tryz.t228.size, Tryz.t228.bytes, Tryz.t228.zero, Tryz.t228.desc⟩),
  (229, ⟨Tryz.t229.size, Tryz.t229.bytes, Tryz.t229.zero, Tryz.t229.desc⟩),
  (230, ⟨Tryz.t230.size, Tryz.t230.bytes, Tryz.t230.zero, Tryz.t229.desc⟩),
  (231, ⟨Tryz.t231.size, Tryz.t231.bytes, Tryz.t231.zero, Tryz.t5.desc⟩),
  (232, ⟨Tryz.t232.size, Tryz.t232.bytes, Tryz.t232.zero, Tryz.t5.desc⟩),
  (233, ⟨Tryz.t233.size, Tryz.t233.bytes, Tryz.t233.zero, Tryz.t233.desc⟩),
  (234, ⟨Tryz.t234.size, Tryz.t234.bytes, Tryz.t234.zero, Tryz.t21.desc⟩),
  (235, ⟨Tryz.t235.size, Tryz.t235.bytes, Tryz.t235.zero, Tryz.t21.desc⟩),
  (236, ⟨Tryz.t236.size, Tryz.t236.bytes, Tryz.t236.zero, Tryz.t236.desc⟩),
  (237, ⟨Tryz.t237.size, Tryz.t237.bytes, Tryz.t237.zero, Tryz.t236.desc⟩)], []⟩
theorem TOK.nil (P : Program) : TOK P ⟨[], []⟩ := fun _ _ h => nomatch h
theorem TOK.cons {P : Program} {l : List (Nat × TI)} {v : List Nat} {t : Nat} {ti : TI} (h1 : TOK1 P t ti) (h : TOK P ⟨l, v⟩) : TOK P ⟨(t, ti) :: l, v⟩ := by
  intro u ui e
  by_cases hu : u = t
  · subst hu
    have e' : lk u ((u, ti) :: l) = some ui := e
    rw [lk_cons_self] at e'; cases e'; exact h1
  · have e' : lk u ((t, ti) :: l) = some ui := e
    rw [lk_cons_other hu] at e'; exact h u ui e'
theorem TOK.vec {P : Program} {T : Ty} (h : TOK P T) (v : List Nat) : TOK P (T.vec v) := fun u ui e => h u ui e
theorem T_ok : TOK Tryz.prog T :=
  TOK.cons ⟨⟨Tryz.t0, by kernel_rfl, rfl, rfl, rfl⟩, by kernel_rfl⟩ <|
  TOK.cons ⟨⟨Tryz.t1, by kernel_rfl, rfl, rfl, rfl⟩, by kernel_rfl⟩ <|
  TOK.cons ⟨⟨Tryz.t2, by kernel_rfl, rfl, rfl, rfl⟩, by kernel_rfl⟩ <|
  TOK.cons ⟨⟨Tryz.t3, by kernel_rfl, rfl, rfl, rfl⟩, by kernel_rfl⟩ <|
  TOK.cons ⟨⟨Tryz.t4, by kernel_rfl, rfl, rfl, rfl⟩, by kernel_rfl⟩ <|
  TOK.cons ⟨⟨Tryz.t5, by kernel_rfl, rfl, rfl, rfl⟩, by kernel_rfl⟩ <|
  TOK.cons ⟨⟨Tryz.t6, by kernel_rfl, rfl, rfl, rfl⟩, by kernel_rfl⟩ <|
  TOK.cons ⟨⟨Tryz.t7, by kernel_rfl, rfl, rfl, rfl⟩, by kernel_rfl⟩ <|
  TOK.cons ⟨⟨Tryz.t8, by kernel_rfl, rfl, rfl, rfl⟩, by kernel_rfl⟩ <|
  TOK.cons ⟨⟨Tryz.t9, by kernel_rfl, rfl, rfl, rfl⟩, by kernel_rfl⟩ <|
  TOK.cons ⟨⟨Tryz.t10, by kernel_rfl, rfl, rfl, rfl⟩, by kernel_rfl⟩ <|
  TOK.cons ⟨⟨Tryz.t11, by kernel_rfl, rfl, rfl, rfl⟩, by kernel_rfl⟩ <|
  TOK.cons ⟨⟨Tryz.t12, by kernel_rfl, rfl, rfl, rfl⟩, by kernel_rfl⟩ <|
  TOK.cons ⟨⟨Tryz.t13, by kernel_rfl, rfl, rfl, rfl⟩, by kernel_rfl⟩ <|
  TOK.cons ⟨⟨Tryz.t14, by kernel_rfl, rfl, rfl, rfl⟩, by kernel_rfl⟩ <|
  TOK.cons ⟨⟨Tryz.t15, by kernel_rfl, rfl, rfl, rfl⟩, by kernel_rfl⟩ <|
  TOK.cons ⟨⟨Tryz.t16, by kernel_rfl, rfl, rfl, rfl⟩, by kernel_rfl⟩ <|
  TOK.cons ⟨⟨Tryz.t17, by kernel_rfl, rfl, rfl, rfl⟩, by kernel_rfl⟩ <|
  TOK.cons ⟨⟨Tryz.t18, by kernel_rfl, rfl, rfl, rfl⟩, by kernel_rfl⟩ <|
  TOK.cons ⟨⟨Tryz.t19, by kernel_rfl, rfl, rfl, rfl⟩, by kernel_rfl⟩ <|
  TOK.cons ⟨⟨Tryz.t20, by kernel_rfl, rfl, rfl, rfl⟩, by kernel_rfl⟩ <|
  TOK.cons ⟨⟨Tryz.t21, by kernel_rfl, rfl, rfl, rfl⟩, by kernel_rfl⟩ <|
  TOK.cons ⟨⟨Tryz.t22, by kernel_rfl, rfl, rfl, rfl⟩, by kernel_rfl⟩ <|
  TOK.cons ⟨⟨Tryz.t23, by kernel_rfl, rfl, rfl, rfl⟩, by kernel_rfl⟩ <|
  TOK.cons ⟨⟨Tryz.t24, by kernel_rfl, rfl, rfl, rfl⟩, by kernel_rfl⟩ <|
  TOK.cons ⟨⟨Tryz.t25, by kernel_rfl, rfl, rfl, rfl⟩, by kernel_rfl⟩ <|
  TOK.cons ⟨⟨Tryz.t26, by kernel_rfl, rfl, rfl, rfl⟩, by kernel_rfl⟩ <|
  TOK.cons ⟨⟨Tryz.t27, by kernel_rfl, rfl, rfl, rfl⟩, by kernel_rfl⟩ <|
  TOK.cons ⟨⟨Tryz.t28, by kernel_rfl, rfl, rfl, rfl⟩, by kernel_rfl⟩ <|
  TOK.cons ⟨⟨Tryz.t29, by kernel_rfl, rfl, rfl, rfl⟩, by kernel_rfl⟩ <|
  TOK.cons ⟨⟨Tryz.t30, by kernel_rfl, rfl, rfl, rfl⟩, by kernel_rfl⟩ <|
  TOK.cons ⟨⟨Tryz.t31, by kernel_rfl, rfl, rfl, rfl⟩, by kernel_rfl⟩ <|
  TOK.cons ⟨⟨Tryz.t32, by kernel_rfl, rfl, rfl, rfl⟩, by kernel_rfl⟩ <|
  TOK.cons ⟨⟨Tryz.t33, by kernel_rfl, rfl, rfl, rfl⟩, by kernel_rfl⟩ <|
  TOK.cons ⟨⟨Tryz.t34, by kernel_rfl, rfl, rfl, rfl⟩, by kernel_rfl⟩ <|
  TOK.cons ⟨⟨Tryz.t35, by kernel_rfl, rfl, rfl, rfl⟩, by kernel_rfl⟩ <|
  TOK.cons ⟨⟨Tryz.t36, by kernel_rfl, rfl, rfl, rfl⟩, by kernel_rfl⟩ <|
  TOK.cons ⟨⟨Tryz.t37, by kernel_rfl, rfl, rfl, rfl⟩, by kernel_rfl⟩ <|
  TOK.cons ⟨⟨Tryz.t38, by kernel_rfl, rfl, rfl, rfl⟩, by kernel_rfl⟩ <|
  TOK.cons ⟨⟨Tryz.t39, by kernel_rfl, rfl, rfl, rfl⟩, by kernel_rfl⟩ <|
  TOK.cons ⟨⟨Tryz.t40, by kernel_rfl, rfl, rfl, rfl⟩, by kernel_rfl⟩ <|
  TOK.cons ⟨⟨Tryz.t41, by kernel_rfl, rfl, rfl, rfl⟩, by kernel_rfl⟩ <|
  TOK.cons ⟨⟨Tryz.t42, by kernel_rfl, rfl, rfl, rfl⟩, by kernel_rfl⟩ <|
  TOK.cons ⟨⟨Tryz.t43, by kernel_rfl, rfl, rfl, rfl⟩, by kernel_rfl⟩ <|
  TOK.cons ⟨⟨Tryz.t44, by kernel_rfl, rfl, rfl, rfl⟩, by kernel_rfl⟩ <|
  TOK.cons ⟨⟨Tryz.t45, by kernel_rfl, rfl, rfl, rfl⟩, by kernel_rfl⟩ <|
  TOK.cons ⟨⟨Tryz.t46, by kernel_rfl, rfl, rfl, rfl⟩, by kernel_rfl⟩ <|
  TOK.cons ⟨⟨Tryz.t47, by kernel_rfl, rfl, rfl, rfl⟩, by kernel_rfl⟩ <|
  TOK.cons ⟨⟨Tryz.t48, by kernel_rfl, rfl, rfl, rfl⟩, by kernel_rfl⟩ <|
  TOK.cons ⟨⟨Tryz.t49, by kernel_rfl, rfl, rfl, rfl⟩, by kernel_rfl⟩ <|
  TOK.cons ⟨⟨Tryz.t50, by kernel_rfl, rfl, rfl, rfl⟩, by kernel_rfl⟩ <|
  TOK.cons ⟨⟨Tryz.t51, by kernel_rfl, rfl, rfl, rfl⟩, by kernel_rfl⟩ <|
  TOK.cons ⟨⟨Tryz.t52, by kernel_rfl, rfl, rfl, rfl⟩, by kernel_rfl⟩ <|
  TOK.cons ⟨⟨Tryz.t53, by kernel_rfl, rfl, rfl, rfl⟩, by kernel_rfl⟩ <|
  TOK.cons ⟨⟨Tryz.t54, by kernel_rfl, rfl, rfl, rfl⟩, by kernel_rfl⟩ <|
  TOK.cons ⟨⟨Tryz.t55, by kernel_rfl, rfl, rfl, rfl⟩, by kernel_rfl⟩ <|
  TOK.cons ⟨⟨Tryz.t56, by kernel_rfl, rfl, rfl, rfl⟩, by kernel_rfl⟩ <|
  TOK.cons ⟨⟨Tryz.t57, by kernel_rfl, rfl, rfl, rfl⟩, by kernel_rfl⟩ <|
  TOK.cons ⟨⟨Tryz.t58, by kernel_rfl, rfl, rfl, rfl⟩, by kernel_rfl⟩ <|
  TOK.cons ⟨⟨Tryz.t59, by kernel_rfl, rfl, rfl, rfl⟩, by kernel_rfl⟩ <|
  TOK.cons ⟨⟨Tryz.t60, by kernel_rfl, rfl, rfl, rfl⟩, by kernel_rfl⟩ <|
  TOK.cons ⟨⟨Tryz.t61, by kernel_rfl, rfl, rfl, rfl⟩, by kernel_rfl⟩ <|
  TOK.cons ⟨⟨Tryz.t62, by kernel_rfl, rfl, rfl, rfl⟩, by kernel_rfl⟩ <|
  TOK.cons ⟨⟨Tryz.t63, by kernel_rfl, rfl, rfl, rfl⟩, by kernel_rfl⟩ <|
  TOK.cons ⟨⟨Tryz.t64, by kernel_rfl, rfl, rfl, rfl⟩, by kernel_rfl⟩ <|
  TOK.cons ⟨⟨Tryz.t65, by kernel_rfl, rfl, rfl, rfl⟩, by kernel_rfl⟩ <|
  TOK.cons ⟨⟨Tryz.t66, by kernel_rfl, rfl, rfl, rfl⟩, by kernel_rfl⟩ <|
  TOK.cons ⟨⟨Tryz.t67, by kernel_rfl, rfl, rfl, rfl⟩, by kernel_rfl⟩ <|
  TOK.cons ⟨⟨Tryz.t68, by kernel_rfl, rfl, rfl, rfl⟩, by kernel_rfl⟩ <|
  TOK.cons ⟨⟨Tryz.t69, by kernel_rfl, rfl, rfl, rfl⟩, by kernel_rfl⟩ <|
  TOK.cons ⟨⟨Tryz.t70, by kernel_rfl, rfl, rfl, rfl⟩, by kernel_rfl⟩ <|
  TOK.cons ⟨⟨Tryz.t71, by kernel_rfl, rfl, rfl, rfl⟩, by kernel_rfl⟩ <|
  TOK.cons ⟨⟨Tryz.t72, by kernel_rfl, rfl, rfl, rfl⟩, by kernel_rfl⟩ <|
  TOK.cons ⟨⟨Tryz.t73, by kernel_rfl, rfl, rfl, rfl⟩, by kernel_rfl⟩ <|
  TOK.cons ⟨⟨Tryz.t74, by kernel_rfl, rfl, rfl, rfl⟩, by kernel_rfl⟩ <|
  TOK.cons ⟨⟨Tryz.t75, by kernel_rfl, rfl, rfl, rfl⟩, by kernel_rfl⟩ <|
  TOK.cons ⟨⟨Tryz.t76, by kernel_rfl, rfl, rfl, rfl⟩, by kernel_rfl⟩ <|
  TOK.cons ⟨⟨Tryz.t77, by kernel_rfl, rfl, rfl, rfl⟩, by kernel_rfl⟩ <|
  TOK.cons ⟨⟨Tryz.t78, by kernel_rfl, rfl, rfl, rfl⟩, by kernel_rfl⟩ <|
  TOK.cons ⟨⟨Tryz.t79, by kernel_rfl, rfl, rfl, rfl⟩, by kernel_rfl⟩ <|
  TOK.cons ⟨⟨Tryz.t80, by kernel_rfl, rfl, rfl, rfl⟩, by kernel_rfl⟩ <|
  TOK.cons ⟨⟨Tryz.t81, by kernel_rfl, rfl, rfl, rfl⟩, by kernel_rfl⟩ <|
  TOK.cons ⟨⟨Tryz.t82, by kernel_rfl, rfl, rfl, rfl⟩, by kernel_rfl⟩ <|
  TOK.cons ⟨⟨Tryz.t83, by kernel_rfl, rfl, rfl, rfl⟩, by kernel_rfl⟩ <|
  TOK.cons ⟨⟨Tryz.t84, by kernel_rfl, rfl, rfl, rfl⟩, by kernel_rfl⟩ <|
  TOK.cons ⟨⟨Tryz.t85, by kernel_rfl, rfl, rfl, rfl⟩, by kernel_rfl⟩ <|
  TOK.cons ⟨⟨Tryz.t86, by kernel_rfl, rfl, rfl, rfl⟩, by kernel_rfl⟩ <|
  TOK.cons ⟨⟨Tryz.t87, by kernel_rfl, rfl, rfl, rfl⟩, by kernel_rfl⟩ <|
  TOK.cons ⟨⟨Tryz.t88, by kernel_rfl, rfl, rfl, rfl⟩, by kernel_rfl⟩ <|
  TOK.cons ⟨⟨Tryz.t89, by kernel_rfl, rfl, rfl, rfl⟩, by kernel_rfl⟩ <|
  TOK.cons ⟨⟨Tryz.t90, by kernel_rfl, rfl, rfl, rfl⟩, by kernel_rfl⟩ <|
  TOK.cons ⟨⟨Tryz.t91, by kernel_rfl, rfl, rfl, rfl⟩, by kernel_rfl⟩ <|
  TOK.cons ⟨⟨Tryz.t92, by kernel_rfl, rfl, rfl, rfl⟩, by kernel_rfl⟩ <|
  TOK.cons ⟨⟨Tryz.t93, by kernel_rfl, rfl, rfl, rfl⟩, by kernel_rfl⟩ <|
  TOK.cons ⟨⟨Tryz.t94, by kernel_rfl, rfl, rfl, rfl⟩, by kernel_rfl⟩ <|
  TOK.cons ⟨⟨Tryz.t95, by kernel_rfl, rfl, rfl, rfl⟩, by kernel_rfl⟩ <|
  TOK.cons ⟨⟨Tryz.t96, by kernel_rfl, rfl, rfl, rfl⟩, by kernel_rfl⟩ <|
  TOK.cons ⟨⟨Tryz.t97, by kernel_rfl, rfl, rfl, rfl⟩, by kernel_rfl⟩ <|
  TOK.cons ⟨⟨Tryz.t98, by kernel_rfl, rfl, rfl, rfl⟩, by kernel_rfl⟩ <|
  TOK.cons ⟨⟨Tryz.t99, by kernel_rfl, rfl, rfl, rfl⟩, by kernel_rfl⟩ <|
  TOK.cons ⟨⟨Tryz.t100, by kernel_rfl, rfl, rfl, rfl⟩, by kernel_rfl⟩ <|
  TOK.cons ⟨⟨Tryz.t101, by kernel_rfl, rfl, rfl, rfl⟩, by kernel_rfl⟩ <|
  TOK.cons ⟨⟨Tryz.t102, by kernel_rfl, rfl, rfl, rfl⟩, by kernel_rfl⟩ <|
  TOK.cons ⟨⟨Tryz.t103, by kernel_rfl, rfl, rfl, rfl⟩, by kernel_rfl⟩ <|
  TOK.cons ⟨⟨Tryz.t104, by kernel_rfl, rfl, rfl, rfl⟩, by kernel_rfl⟩ <|
  TOK.cons ⟨⟨Tryz.t105, by kernel_rfl, rfl, rfl, rfl⟩, by kernel_rfl⟩ <|
  TOK.cons ⟨⟨Tryz.t106, by kernel_rfl, rfl, rfl, rfl⟩, by kernel_rfl⟩ <|
  TOK.cons ⟨⟨Tryz.t107, by kernel_rfl, rfl, rfl, rfl⟩, by kernel_rfl⟩ <|
  TOK.cons ⟨⟨Tryz.t108, by kernel_rfl, rfl, rfl, rfl⟩, by kernel_rfl⟩ <|
  TOK.cons ⟨⟨Tryz.t109, by kernel_rfl, rfl, rfl, rfl⟩, by kernel_rfl⟩ <|
  TOK.cons ⟨⟨Tryz.t110, by kernel_rfl, rfl, rfl, rfl⟩, by kernel_rfl⟩ <|
  TOK.cons ⟨⟨Tryz.t111, by kernel_rfl, rfl, rfl, rfl⟩, by kernel_rfl⟩ <|
  TOK.cons ⟨⟨Tryz.t112, by kernel_rfl, rfl, rfl, rfl⟩, by kernel_rfl⟩ <|
  TOK.cons ⟨⟨Tryz.t113, by kernel_rfl, rfl, rfl, rfl⟩, by kernel_rfl⟩ <|
  TOK.cons ⟨⟨Tryz.t114, by kernel_rfl, rfl, rfl, rfl⟩, by kernel_rfl⟩ <|
  TOK.cons ⟨⟨Tryz.t115, by kernel_rfl, rfl, rfl, rfl⟩, by kernel_rfl⟩ <|
  TOK.cons ⟨⟨Tryz.t116, by kernel_rfl, rfl, rfl, rfl⟩, by kernel_rfl⟩ <|
  TOK.cons ⟨⟨Tryz.t117, by kernel_rfl, rfl, rfl, rfl⟩, by kernel_rfl⟩ <|
  TOK.cons ⟨⟨Tryz.t118, by kernel_rfl, rfl, rfl, rfl⟩, by kernel_rfl⟩ <|
  TOK.cons ⟨⟨Tryz.t119, by kernel_rfl, rfl, rfl, rfl⟩, by kernel_rfl⟩ <|
  TOK.cons ⟨⟨Tryz.t120, by kernel_rfl, rfl, rfl, rfl⟩, by kernel_rfl⟩ <|
  TOK.cons ⟨⟨Tryz.t121, by kernel_rfl, rfl, rfl, rfl⟩, by kernel_rfl⟩ <|
  TOK.cons ⟨⟨Tryz.t122, by kernel_rfl, rfl, rfl, rfl⟩, by kernel_rfl⟩ <|
  TOK.cons ⟨⟨Tryz.t123, by kernel_rfl, rfl, rfl, rfl⟩, by kernel_rfl⟩ <|
  TOK.cons ⟨⟨Tryz.t124, by kernel_rfl, rfl, rfl, rfl⟩, by kernel_rfl⟩ <|
  TOK.cons ⟨⟨Tryz.t125, by kernel_rfl, rfl, rfl, rfl⟩, by kernel_rfl⟩ <|
  TOK.cons ⟨⟨Tryz.t126, by kernel_rfl, rfl, rfl, rfl⟩, by kernel_rfl⟩ <|
  TOK.cons ⟨⟨Tryz.t127, by kernel_rfl, rfl, rfl, rfl⟩, by kernel_rfl⟩ <|
  TOK.cons ⟨⟨Tryz.t128, by kernel_rfl, rfl, rfl, rfl⟩, by kernel_rfl⟩ <|
  TOK.cons ⟨⟨Tryz.t129, by kernel_rfl, rfl, rfl, rfl⟩, by kernel_rfl⟩ <|
  TOK.cons ⟨⟨Tryz.t130, by kernel_rfl, rfl, rfl, rfl⟩, by kernel_rfl⟩ <|
  TOK.cons ⟨⟨Tryz.t131, by kernel_rfl, rfl, rfl, rfl⟩, by kernel_rfl⟩ <|
  TOK.cons ⟨⟨Tryz.t132, by kernel_rfl, rfl, rfl, rfl⟩, by kernel_rfl⟩ <|
  TOK.cons ⟨⟨Tryz.t133, by kernel_rfl, rfl, rfl, rfl⟩, by kernel_rfl⟩ <|
  TOK.cons ⟨⟨Tryz.t134, by kernel_rfl, rfl, rfl, rfl⟩, by kernel_rfl⟩ <|
  TOK.cons ⟨⟨Tryz.t135, by kernel_rfl, rfl, rfl, rfl⟩, by kernel_rfl⟩ <|
  TOK.cons ⟨⟨Tryz.t136, by kernel_rfl, rfl, rfl, rfl⟩, by kernel_rfl⟩ <|
  TOK.cons ⟨⟨Tryz.t137, by kernel_rfl, rfl, rfl, rfl⟩, by kernel_rfl⟩ <|
  TOK.cons ⟨⟨Tryz.t138, by kernel_rfl, rfl, rfl, rfl⟩, by kernel_rfl⟩ <|
  TOK.cons ⟨⟨Tryz.t139, by kernel_rfl, rfl, rfl, rfl⟩, by kernel_rfl⟩ <|
  TOK.cons ⟨⟨Tryz.t140, by kernel_rfl, rfl, rfl, rfl⟩, by kernel_rfl⟩ <|
  TOK.cons ⟨⟨Tryz.t141, by kernel_rfl, rfl, rfl, rfl⟩, by kernel_rfl⟩ <|
  TOK.cons ⟨⟨Tryz.t142, by kernel_rfl, rfl, rfl, rfl⟩, by kernel_rfl⟩ <|
  TOK.cons ⟨⟨Tryz.t143, by kernel_rfl, rfl, rfl, rfl⟩, by kernel_rfl⟩ <|
  TOK.cons ⟨⟨Tryz.t144, by kernel_rfl, rfl, rfl, rfl⟩, by kernel_rfl⟩ <|
  TOK.cons ⟨⟨Tryz.t145, by kernel_rfl, rfl, rfl, rfl⟩, by kernel_rfl⟩ <|
  TOK.cons ⟨⟨Tryz.t146, by kernel_rfl, rfl, rfl, rfl⟩, by kernel_rfl⟩ <|
  TOK.cons ⟨⟨Tryz.t147, by kernel_rfl, rfl, rfl, rfl⟩, by kernel_rfl⟩ <|
  TOK.cons ⟨⟨Tryz.t148, by kernel_rfl, rfl, rfl, rfl⟩, by kernel_rfl⟩ <|
  TOK.cons ⟨⟨Tryz.t149, by kernel_rfl, rfl, rfl, rfl⟩, by kernel_rfl⟩ <|
  TOK.cons ⟨⟨Tryz.t150, by kernel_rfl, rfl, rfl, rfl⟩, by kernel_rfl⟩ <|
  TOK.cons ⟨⟨Tryz.t151, by kernel_rfl, rfl, rfl, rfl⟩, by kernel_rfl⟩ <|
  TOK.cons ⟨⟨Tryz.t152, by kernel_rfl, rfl, rfl, rfl⟩, by kernel_rfl⟩ <|
  TOK.cons ⟨⟨Tryz.t153, by kernel_rfl, rfl, rfl, rfl⟩, by kernel_rfl⟩ <|
  TOK.cons ⟨⟨Tryz.t154, by kernel_rfl, rfl, rfl, rfl⟩, by kernel_rfl⟩ <|
  TOK.cons ⟨⟨Tryz.t155, by kernel_rfl, rfl, rfl, rfl⟩, by kernel_rfl⟩ <|
  TOK.cons ⟨⟨Tryz.t156, by kernel_rfl, rfl, rfl, rfl⟩, by kernel_rfl⟩ <|
  TOK.cons ⟨⟨Tryz.t157, by kernel_rfl, rfl, rfl, rfl⟩, by kernel_rfl⟩ <|
  TOK.cons ⟨⟨Tryz.t158, by kernel_rfl, rfl, rfl, rfl⟩, by kernel_rfl⟩ <|
  TOK.cons ⟨⟨Tryz.t159, by kernel_rfl, rfl, rfl, rfl⟩, by kernel_rfl⟩ <|
  TOK.cons ⟨⟨Tryz.t160, by kernel_rfl, rfl, rfl, rfl⟩, by kernel_rfl⟩ <|
  TOK.cons ⟨⟨Tryz.t161, by kernel_rfl, rfl, rfl, rfl⟩, by kernel_rfl⟩ <|
  TOK.cons ⟨⟨Tryz.t162, by kernel_rfl, rfl, rfl, rfl⟩, by kernel_rfl⟩ <|
  TOK.cons ⟨⟨Tryz.t163, by kernel_rfl, rfl, rfl, rfl⟩, by kernel_rfl⟩ <|
  TOK.cons ⟨⟨Tryz.t164, by kernel_rfl, rfl, rfl, rfl⟩, by kernel_rfl⟩ <|
  TOK.cons ⟨⟨Tryz.t165, by kernel_rfl, rfl, rfl, rfl⟩, by kernel_rfl⟩ <|
  TOK.cons ⟨⟨Tryz.t166, by kernel_rfl, rfl, rfl, rfl⟩, by kernel_rfl⟩ <|
  TOK.cons ⟨⟨Tryz.t167, by kernel_rfl, rfl, rfl, rfl⟩, by kernel_rfl⟩ <|
  TOK.cons ⟨⟨Tryz.t168, by kernel_rfl, rfl, rfl, rfl⟩, by kernel_rfl⟩ <|
  TOK.cons ⟨⟨Tryz.t169, by kernel_rfl, rfl, rfl, rfl⟩, by kernel_rfl⟩ <|
  TOK.cons ⟨⟨Tryz.t170, by kernel_rfl, rfl, rfl, rfl⟩, by kernel_rfl⟩ <|
  TOK.cons ⟨⟨Tryz.t171, by kernel_rfl, rfl, rfl, rfl⟩, by kernel_rfl⟩ <|
  TOK.cons ⟨⟨Tryz.t172, by kernel_rfl, rfl, rfl, rfl⟩, by kernel_rfl⟩ <|
  TOK.cons ⟨⟨Tryz.t173, by kernel_rfl, rfl, rfl, rfl⟩, by kernel_rfl⟩ <|
  TOK.cons ⟨⟨Tryz.t174, by kernel_rfl, rfl, rfl, rfl⟩, by kernel_rfl⟩ <|
  TOK.cons ⟨⟨Tryz.t175, by kernel_rfl, rfl, rfl, rfl⟩, by kernel_rfl⟩ <|
  TOK.cons ⟨⟨Tryz.t176, by kernel_rfl, rfl, rfl, rfl⟩, by kernel_rfl⟩ <|
  TOK.cons ⟨⟨Tryz.t177, by kernel_rfl, rfl, rfl, rfl⟩, by kernel_rfl⟩ <|
  TOK.cons ⟨⟨Tryz.t178, by kernel_rfl, rfl, rfl, rfl⟩, by kernel_rfl⟩ <|
  TOK.cons ⟨⟨Tryz.t179, by kernel_rfl, rfl, rfl, rfl⟩, by kernel_rfl⟩ <|
  TOK.cons ⟨⟨Tryz.t180, by kernel_rfl, rfl, rfl, rfl⟩, by kernel_rfl⟩ <|
  TOK.cons ⟨⟨Tryz.t181, by kernel_rfl, rfl, rfl, rfl⟩, by kernel_rfl⟩ <|
  TOK.cons ⟨⟨Tryz.t182, by kernel_rfl, rfl, rfl, rfl⟩, by kernel_rfl⟩ <|
  TOK.cons ⟨⟨Tryz.t183, by kernel_rfl, rfl, rfl, rfl⟩, by kernel_rfl⟩ <|
  TOK.cons ⟨⟨Tryz.t184, by kernel_rfl, rfl, rfl, rfl⟩, by kernel_rfl⟩ <|
  TOK.cons ⟨⟨Tryz.t185, by kernel_rfl, rfl, rfl, rfl⟩, by kernel_rfl⟩ <|
  TOK.cons ⟨⟨Tryz.t186, by kernel_rfl, rfl, rfl, rfl⟩, by kernel_rfl⟩ <|
  TOK.cons ⟨⟨Tryz.t187, by kernel_rfl, rfl, rfl, rfl⟩, by kernel_rfl⟩ <|
  TOK.cons ⟨⟨Tryz.t188, by kernel_rfl, rfl, rfl, rfl⟩, by kernel_rfl⟩ <|
  TOK.cons ⟨⟨Tryz.t189, by kernel_rfl, rfl, rfl, rfl⟩, by kernel_rfl⟩ <|
  TOK.cons ⟨⟨Tryz.t190, by kernel_rfl, rfl, rfl, rfl⟩, by kernel_rfl⟩ <|
  TOK.cons ⟨⟨Tryz.t191, by kernel_rfl, rfl, rfl, rfl⟩, by kernel_rfl⟩ <|
  TOK.cons ⟨⟨Tryz.t192, by kernel_rfl, rfl, rfl, rfl⟩, by kernel_rfl⟩ <|
  TOK.cons ⟨⟨Tryz.t193, by kernel_rfl, rfl, rfl, rfl⟩, by kernel_rfl⟩ <|
  TOK.cons ⟨⟨Tryz.t194, by kernel_rfl, rfl, rfl, rfl⟩, by kernel_rfl⟩ <|
  TOK.cons ⟨⟨Tryz.t195, by kernel_rfl, rfl, rfl, rfl⟩, by kernel_rfl⟩ <|
  TOK.cons ⟨⟨Tryz.t196, by kernel_rfl, rfl, rfl, rfl⟩, by kernel_rfl⟩ <|
  TOK.cons ⟨⟨Tryz.t197, by kernel_rfl, rfl, rfl, rfl⟩, by kernel_rfl⟩ <|
  TOK.cons ⟨⟨Tryz.t198, by kernel_rfl, rfl, rfl, rfl⟩, by kernel_rfl⟩ <|
  TOK.cons ⟨⟨Tryz.t199, by kernel_rfl, rfl, rfl, rfl⟩, by kernel_rfl⟩ <|
  TOK.cons ⟨⟨Tryz.t200, by kernel_rfl, rfl, rfl, rfl⟩, by kernel_rfl⟩ <|
  TOK.cons ⟨⟨Tryz.t201, by kernel_rfl, rfl, rfl, rfl⟩, by kernel_rfl⟩ <|
  TOK.cons ⟨⟨Tryz.t202, by kernel_rfl, rfl, rfl, rfl⟩, by kernel_rfl⟩ <|
  TOK.cons ⟨⟨Tryz.t203, by kernel_rfl, rfl, rfl, rfl⟩, by kernel_rfl⟩ <|
  TOK.cons ⟨⟨Tryz.t204, by kernel_rfl, rfl, rfl, rfl⟩, by kernel_rfl⟩ <|
  TOK.cons ⟨⟨Tryz.t205, by kernel_rfl, rfl, rfl, rfl⟩, by kernel_rfl⟩ <|
  TOK.cons ⟨⟨Tryz.t206, by kernel_rfl, rfl, rfl, rfl⟩, by kernel_rfl⟩ <|
  TOK.cons ⟨⟨Tryz.t207, by kernel_rfl, rfl, rfl, rfl⟩, by kernel_rfl⟩ <|
  TOK.cons ⟨⟨Tryz.t208, by kernel_rfl, rfl, rfl, rfl⟩, by kernel_rfl⟩ <|
  TOK.cons ⟨⟨Tryz.t209, by kernel_rfl, rfl, rfl, rfl⟩, by kernel_rfl⟩ <|
  TOK.cons ⟨⟨Tryz.t210, by kernel_rfl, rfl, rfl, rfl⟩, by kernel_rfl⟩ <|
  TOK.cons ⟨⟨Tryz.t211, by kernel_rfl, rfl, rfl, rfl⟩, by kernel_rfl⟩ <|
  TOK.cons ⟨⟨Tryz.t212, by kernel_rfl, rfl, rfl, rfl⟩, by kernel_rfl⟩ <|
  TOK.cons ⟨⟨Tryz.t213, by kernel_rfl, rfl, rfl, rfl⟩, by kernel_rfl⟩ <|
  TOK.cons ⟨⟨Tryz.t214, by kernel_rfl, rfl, rfl, rfl⟩, by kernel_rfl⟩ <|
  TOK.cons ⟨⟨Tryz.t215, by kernel_rfl, rfl, rfl, rfl⟩, by kernel_rfl⟩ <|
  TOK.cons ⟨⟨Tryz.t216, by kernel_rfl, rfl, rfl, rfl⟩, by kernel_rfl⟩ <|
  TOK.cons ⟨⟨Tryz.t217, by kernel_rfl, rfl, rfl, rfl⟩, by kernel_rfl⟩ <|
  TOK.cons ⟨⟨Tryz.t218, by kernel_rfl, rfl, rfl, rfl⟩, by kernel_rfl⟩ <|
  TOK.cons ⟨⟨Tryz.t219, by kernel_rfl, rfl, rfl, rfl⟩, by kernel_rfl⟩ <|
  TOK.cons ⟨⟨Tryz.t220, by kernel_rfl, rfl, rfl, rfl⟩, by kernel_rfl⟩ <|
  TOK.cons ⟨⟨Tryz.t221, by kernel_rfl, rfl, rfl, rfl⟩, by kernel_rfl⟩ <|
  TOK.cons ⟨⟨Tryz.t222, by kernel_rfl, rfl, rfl, rfl⟩, by kernel_rfl⟩ <|
  TOK.cons ⟨⟨Tryz.t223, by kernel_rfl, rfl, rfl, rfl⟩, by kernel_rfl⟩ <|
  TOK.cons ⟨⟨Tryz.t224, by kernel_rfl, rfl, rfl, rfl⟩, by kernel_rfl⟩ <|
  TOK.cons ⟨⟨Tryz.t225, by kernel_rfl, rfl, rfl, rfl⟩, by kernel_rfl⟩ <|
  TOK.cons ⟨⟨Tryz.t226, by kernel_rfl, rfl, rfl, rfl⟩, by kernel_rfl⟩ <|
  TOK.cons ⟨⟨Tryz.t227, by kernel_rfl, rfl, rfl, rfl⟩, by kernel_rfl⟩ <|
  TOK.cons ⟨⟨Tryz.t228, by kernel_rfl, rfl, rfl, rfl⟩, by kernel_rfl⟩ <|
  TOK.cons ⟨⟨Tryz.t229, by kernel_rfl, rfl, rfl, rfl⟩, by kernel_rfl⟩ <|
  TOK.cons ⟨⟨Tryz.t230, by kernel_rfl, rfl, rfl, rfl⟩, by kernel_rfl⟩ <|
  TOK.cons ⟨⟨Tryz.t231, by kernel_rfl, rfl, rfl, rfl⟩, by kernel_rfl⟩ <|
  TOK.cons ⟨⟨Tryz.t232, by kernel_rfl, rfl, rfl, rfl⟩, by kernel_rfl⟩ <|
  TOK.cons ⟨⟨Tryz.t233, by kernel_rfl, rfl, rfl, rfl⟩, by kernel_rfl⟩ <|
  TOK.cons ⟨⟨Tryz.t234, by kernel_rfl, rfl, rfl, rfl⟩, by kernel_rfl⟩ <|
  TOK.cons ⟨⟨Tryz.t235, by kernel_rfl, rfl, rfl, rfl⟩, by kernel_rfl⟩ <|
  TOK.cons ⟨⟨Tryz.t236, by kernel_rfl, rfl, rfl, rfl⟩, by kernel_rfl⟩ <|
  TOK.cons ⟨⟨Tryz.t237, by kernel_rfl, rfl, rfl, rfl⟩, by kernel_rfl⟩ <|
  TOK.nil _
end Go.Kn
