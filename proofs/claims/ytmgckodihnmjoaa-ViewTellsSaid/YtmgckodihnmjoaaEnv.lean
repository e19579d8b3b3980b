/-
  What is known of the types of this program. Conditions: none.
-/
import Derived.Test.YtmgckodihnmjoaaKD
import Derived.Test.YtmgckodihnmjoaaProg
namespace Go.Proofs.Ytmgckodihnmjoaa
set_option maxRecDepth 100000
noncomputable def tab : List (Nat × Ty) := [
  (0, ⟨Try.t0.desc, 1, 0, Try.t0.zero⟩),
  (1, ⟨Try.t1.desc, 1, 8, Try.t1.zero⟩),
  (2, ⟨Try.t2.desc, 1, 8, Try.t2.zero⟩),
  (3, ⟨Try.t3.desc, 1, 8, Try.t3.zero⟩),
  (4, ⟨Try.t4.desc, 1, 1, Try.t4.zero⟩),
  (5, ⟨Try.t5.desc, 1, 1, Try.t5.zero⟩),
  (6, ⟨Try.t5.desc, 1, 1, Try.t6.zero⟩),
  (7, ⟨Try.t7.desc, 4, 24, Try.t7.zero⟩),
  (8, ⟨Try.t7.desc, 4, 24, Try.t8.zero⟩),
  (9, ⟨Try.t9.desc, 1, 16, Try.t9.zero⟩),
  (10, ⟨Try.t9.desc, 1, 16, Try.t10.zero⟩),
  (11, ⟨Try.t9.desc, 1, 16, Try.t11.zero⟩),
  (12, ⟨Try.t12.desc, 1, 8, Try.t12.zero⟩),
  (13, ⟨Try.t13.desc, 2, 24, Try.t13.zero⟩),
  (14, ⟨Try.t13.desc, 2, 24, Try.t14.zero⟩),
  (15, ⟨Try.t15.desc, 1, 8, Try.t15.zero⟩),
  (16, ⟨Try.t16.desc, 1, 8, Try.t16.zero⟩),
  (17, ⟨Try.t17.desc, 1, 8, Try.t17.zero⟩),
  (18, ⟨Try.t18.desc, 1, 8, Try.t18.zero⟩),
  (19, ⟨Try.t18.desc, 1, 8, Try.t19.zero⟩),
  (20, ⟨Try.t20.desc, 1, 16, Try.t20.zero⟩),
  (21, ⟨Try.t21.desc, 1, 4, Try.t21.zero⟩),
  (22, ⟨Try.t3.desc, 1, 8, Try.t22.zero⟩),
  (23, ⟨Try.t23.desc, 3, 24, Try.t23.zero⟩),
  (24, ⟨Try.t23.desc, 3, 24, Try.t24.zero⟩),
  (25, ⟨Try.t3.desc, 1, 8, Try.t25.zero⟩),
  (26, ⟨Try.t26.desc, 1, 0, Try.t26.zero⟩),
  (27, ⟨Try.t27.desc, 1, 8, Try.t27.zero⟩),
  (28, ⟨Try.t28.desc, 1, 24, Try.t28.zero⟩),
  (29, ⟨Try.t29.desc, 1, 0, Try.t29.zero⟩),
  (30, ⟨Try.t30.desc, 1, 8, Try.t30.zero⟩),
  (31, ⟨Try.t31.desc, 1, 8, Try.t31.zero⟩),
  (32, ⟨Try.t32.desc, 1, 8, Try.t32.zero⟩),
  (33, ⟨Try.t33.desc, 1, 24, Try.t33.zero⟩),
  (34, ⟨Try.t34.desc, 3, 12, Try.t34.zero⟩),
  (35, ⟨Try.t35.desc, 1, 8, Try.t35.zero⟩),
  (36, ⟨Try.t36.desc, 1, 8, Try.t36.zero⟩),
  (37, ⟨Try.t37.desc, 1, 8, Try.t37.zero⟩),
  (38, ⟨Try.t38.desc, 6, 48, Try.t38.zero⟩),
  (39, ⟨Try.t39.desc, 1, 8, Try.t39.zero⟩),
  (40, ⟨Try.t40.desc, 1, 8, Try.t40.zero⟩),
  (41, ⟨Try.t41.desc, 1, 8, Try.t41.zero⟩),
  (42, ⟨Try.t42.desc, 1, 8, Try.t42.zero⟩),
  (43, ⟨Try.t43.desc, 1, 8, Try.t43.zero⟩),
  (44, ⟨Try.t44.desc, 1, 8, Try.t44.zero⟩),
  (45, ⟨Try.t45.desc, 1, 8, Try.t45.zero⟩),
  (46, ⟨Try.t46.desc, 1, 8, Try.t46.zero⟩),
  (47, ⟨Try.t47.desc, 1, 24, Try.t47.zero⟩),
  (48, ⟨Try.t48.desc, 12, 96, Try.t48.zero⟩),
  (49, ⟨Try.t48.desc, 12, 96, Try.t49.zero⟩),
  (50, ⟨Try.t50.desc, 1, 8, Try.t50.zero⟩),
  (51, ⟨Try.t51.desc, 1, 0, Try.t51.zero⟩),
  (52, ⟨Try.t52.desc, 1, 8, Try.t52.zero⟩),
  (53, ⟨Try.t53.desc, 1, 8, Try.t53.zero⟩),
  (54, ⟨Try.t54.desc, 1, 8, Try.t54.zero⟩),
  (55, ⟨Try.t55.desc, 1, 8, Try.t55.zero⟩),
  (56, ⟨Try.t56.desc, 1, 8, Try.t56.zero⟩),
  (57, ⟨Try.t57.desc, 1, 8, Try.t57.zero⟩),
  (58, ⟨Try.t58.desc, 1, 8, Try.t58.zero⟩),
  (59, ⟨Try.t59.desc, 1, 8, Try.t59.zero⟩),
  (60, ⟨Try.t60.desc, 1, 8, Try.t60.zero⟩),
  (61, ⟨Try.t61.desc, 1, 1, Try.t61.zero⟩),
  (62, ⟨Try.t62.desc, 12, 12, Try.t62.zero⟩),
  (63, ⟨Try.t62.desc, 12, 12, Try.t63.zero⟩),
  (64, ⟨Try.t64.desc, 36, 36, Try.t64.zero⟩),
  (65, ⟨Try.t65.desc, 1, 8, Try.t65.zero⟩),
  (66, ⟨Try.t66.desc, 1, 24, Try.t66.zero⟩),
  (67, ⟨Try.t67.desc, 1, 8, Try.t67.zero⟩),
  (68, ⟨Try.t68.desc, 1, 8, Try.t68.zero⟩),
  (69, ⟨Try.t69.desc, 1, 24, Try.t69.zero⟩),
  (70, ⟨Try.t70.desc, 4, 32, Try.t70.zero⟩),
  (71, ⟨Try.t70.desc, 4, 32, Try.t71.zero⟩),
  (72, ⟨Try.t72.desc, 1, 8, Try.t72.zero⟩),
  (73, ⟨Try.t73.desc, 6, 48, Try.t73.zero⟩),
  (74, ⟨Try.t73.desc, 6, 48, Try.t74.zero⟩),
  (75, ⟨Try.t75.desc, 1, 0, Try.t75.zero⟩),
  (76, ⟨Try.t76.desc, 1, 8, Try.t76.zero⟩),
  (77, ⟨Try.t77.desc, 1, 8, Try.t77.zero⟩),
  (78, ⟨Try.t78.desc, 1, 8, Try.t78.zero⟩),
  (79, ⟨Try.t79.desc, 1, 8, Try.t79.zero⟩),
  (80, ⟨Try.t80.desc, 1, 8, Try.t80.zero⟩),
  (81, ⟨Try.t81.desc, 1, 8, Try.t81.zero⟩),
  (82, ⟨Try.t82.desc, 1, 0, Try.t82.zero⟩),
  (83, ⟨Try.t83.desc, 1, 8, Try.t83.zero⟩),
  (84, ⟨Try.t84.desc, 1, 8, Try.t84.zero⟩),
  (85, ⟨Try.t85.desc, 1, 8, Try.t85.zero⟩),
  (86, ⟨Try.t86.desc, 1, 8, Try.t86.zero⟩),
  (87, ⟨Try.t87.desc, 12, 96, Try.t87.zero⟩),
  (88, ⟨Try.t88.desc, 8, 64, Try.t88.zero⟩),
  (89, ⟨Try.t89.desc, 1, 8, Try.t89.zero⟩),
  (90, ⟨Try.t90.desc, 1, 24, Try.t90.zero⟩),
  (91, ⟨Try.t91.desc, 6, 64, Try.t91.zero⟩),
  (92, ⟨Try.t91.desc, 6, 64, Try.t92.zero⟩),
  (93, ⟨Try.t3.desc, 1, 8, Try.t93.zero⟩),
  (94, ⟨Try.t94.desc, 12, 96, Try.t94.zero⟩),
  (95, ⟨Try.t94.desc, 12, 96, Try.t95.zero⟩),
  (96, ⟨Try.t96.desc, 1, 0, Try.t96.zero⟩),
  (97, ⟨Try.t97.desc, 1, 8, Try.t97.zero⟩),
  (98, ⟨Try.t98.desc, 1, 8, Try.t98.zero⟩),
  (99, ⟨Try.t99.desc, 1, 0, Try.t99.zero⟩),
  (100, ⟨Try.t100.desc, 1, 8, Try.t100.zero⟩),
  (101, ⟨Try.t101.desc, 1, 8, Try.t101.zero⟩),
  (102, ⟨Try.t102.desc, 1, 8, Try.t102.zero⟩),
  (103, ⟨Try.t103.desc, 12, 128, Try.t103.zero⟩),
  (104, ⟨Try.t104.desc, 1, 8, Try.t104.zero⟩),
  (105, ⟨Try.t94.desc, 12, 96, Try.t105.zero⟩),
  (106, ⟨Try.t106.desc, 1, 24, Try.t106.zero⟩),
  (107, ⟨Try.t107.desc, 1, 8, Try.t107.zero⟩),
  (108, ⟨Try.t108.desc, 1, 24, Try.t108.zero⟩),
  (109, ⟨Try.t109.desc, 1, 8, Try.t109.zero⟩),
  (110, ⟨Try.t110.desc, 1, 8, Try.t110.zero⟩),
  (111, ⟨Try.t111.desc, 1, 8, Try.t111.zero⟩),
  (112, ⟨Try.t112.desc, 1, 8, Try.t112.zero⟩),
  (113, ⟨Try.t113.desc, 1, 8, Try.t113.zero⟩),
  (114, ⟨Try.t114.desc, 3, 24, Try.t114.zero⟩),
  (115, ⟨Try.t115.desc, 1, 8, Try.t115.zero⟩),
  (116, ⟨Try.t116.desc, 1, 8, Try.t116.zero⟩),
  (117, ⟨Try.t117.desc, 1, 8, Try.t117.zero⟩),
  (118, ⟨Try.t118.desc, 1, 8, Try.t118.zero⟩),
  (119, ⟨Try.t119.desc, 1, 8, Try.t119.zero⟩),
  (120, ⟨Try.t120.desc, 1, 8, Try.t120.zero⟩),
  (121, ⟨Try.t121.desc, 1, 8, Try.t121.zero⟩),
  (122, ⟨Try.t122.desc, 1, 8, Try.t122.zero⟩),
  (123, ⟨Try.t123.desc, 1, 8, Try.t123.zero⟩),
  (124, ⟨Try.t124.desc, 1, 8, Try.t124.zero⟩),
  (125, ⟨Try.t125.desc, 1, 8, Try.t125.zero⟩),
  (126, ⟨Try.t126.desc, 1, 8, Try.t126.zero⟩),
  (127, ⟨Try.t127.desc, 1, 8, Try.t127.zero⟩),
  (128, ⟨Try.t128.desc, 1, 8, Try.t128.zero⟩),
  (129, ⟨Try.t129.desc, 1, 8, Try.t129.zero⟩),
  (130, ⟨Try.t130.desc, 1, 8, Try.t130.zero⟩),
  (131, ⟨Try.t131.desc, 1, 8, Try.t131.zero⟩),
  (132, ⟨Try.t132.desc, 1, 8, Try.t132.zero⟩),
  (133, ⟨Try.t133.desc, 1, 8, Try.t133.zero⟩),
  (134, ⟨Try.t134.desc, 1, 8, Try.t134.zero⟩),
  (135, ⟨Try.t135.desc, 1, 8, Try.t135.zero⟩),
  (136, ⟨Try.t136.desc, 1, 8, Try.t136.zero⟩),
  (137, ⟨Try.t137.desc, 1, 8, Try.t137.zero⟩),
  (138, ⟨Try.t138.desc, 1, 0, Try.t138.zero⟩),
  (139, ⟨Try.t139.desc, 1, 8, Try.t139.zero⟩),
  (140, ⟨Try.t140.desc, 1, 8, Try.t140.zero⟩),
  (141, ⟨Try.t141.desc, 1, 8, Try.t141.zero⟩),
  (142, ⟨Try.t142.desc, 1, 8, Try.t142.zero⟩),
  (143, ⟨Try.t143.desc, 1, 8, Try.t143.zero⟩),
  (144, ⟨Try.t144.desc, 1, 8, Try.t144.zero⟩),
  (145, ⟨Try.t145.desc, 1, 8, Try.t145.zero⟩),
  (146, ⟨Try.t146.desc, 4, 40, Try.t146.zero⟩),
  (147, ⟨Try.t146.desc, 4, 40, Try.t147.zero⟩),
  (148, ⟨Try.t148.desc, 0, 0, Try.t148.zero⟩),
  (149, ⟨Try.t149.desc, 0, 0, Try.t149.zero⟩),
  (150, ⟨Try.t149.desc, 0, 0, Try.t150.zero⟩),
  (151, ⟨Try.t151.desc, 1, 8, Try.t151.zero⟩),
  (152, ⟨Try.t152.desc, 1, 4, Try.t152.zero⟩),
  (153, ⟨Try.t5.desc, 1, 1, Try.t153.zero⟩),
  (154, ⟨Try.t5.desc, 1, 1, Try.t154.zero⟩),
  (155, ⟨Try.t155.desc, 1, 8, Try.t155.zero⟩),
  (156, ⟨Try.t156.desc, 1, 8, Try.t156.zero⟩),
  (157, ⟨Try.t21.desc, 1, 4, Try.t157.zero⟩),
  (158, ⟨Try.t21.desc, 1, 4, Try.t158.zero⟩),
  (159, ⟨Try.t159.desc, 11, 48, Try.t159.zero⟩),
  (160, ⟨Try.t159.desc, 11, 48, Try.t160.zero⟩),
  (161, ⟨Try.t161.desc, 1, 8, Try.t161.zero⟩)]
theorem ty0 : TyOk Try.prog 0 ⟨Try.t0.desc, 1, 0, Try.t0.zero⟩ := ⟨Try.underlying0, Try.t0, info_of_run Try.typeInfo0, rfl, rfl, rfl⟩
theorem ty1 : TyOk Try.prog 1 ⟨Try.t1.desc, 1, 8, Try.t1.zero⟩ := ⟨Try.underlying1, Try.t1, info_of_run Try.typeInfo1, rfl, rfl, rfl⟩
theorem ty2 : TyOk Try.prog 2 ⟨Try.t2.desc, 1, 8, Try.t2.zero⟩ := ⟨Try.underlying2, Try.t2, info_of_run Try.typeInfo2, rfl, rfl, rfl⟩
theorem ty3 : TyOk Try.prog 3 ⟨Try.t3.desc, 1, 8, Try.t3.zero⟩ := ⟨Try.underlying3, Try.t3, info_of_run Try.typeInfo3, rfl, rfl, rfl⟩
theorem ty4 : TyOk Try.prog 4 ⟨Try.t4.desc, 1, 1, Try.t4.zero⟩ := ⟨Try.underlying4, Try.t4, info_of_run Try.typeInfo4, rfl, rfl, rfl⟩
theorem ty5 : TyOk Try.prog 5 ⟨Try.t5.desc, 1, 1, Try.t5.zero⟩ := ⟨Try.underlying5, Try.t5, info_of_run Try.typeInfo5, rfl, rfl, rfl⟩
theorem ty6 : TyOk Try.prog 6 ⟨Try.t5.desc, 1, 1, Try.t6.zero⟩ := ⟨Try.underlying6, Try.t6, info_of_run Try.typeInfo6, rfl, rfl, rfl⟩
theorem ty7 : TyOk Try.prog 7 ⟨Try.t7.desc, 4, 24, Try.t7.zero⟩ := ⟨Try.underlying7, Try.t7, info_of_run Try.typeInfo7, rfl, rfl, rfl⟩
theorem ty8 : TyOk Try.prog 8 ⟨Try.t7.desc, 4, 24, Try.t8.zero⟩ := ⟨Try.underlying8, Try.t8, info_of_run Try.typeInfo8, rfl, rfl, rfl⟩
theorem ty9 : TyOk Try.prog 9 ⟨Try.t9.desc, 1, 16, Try.t9.zero⟩ := ⟨Try.underlying9, Try.t9, info_of_run Try.typeInfo9, rfl, rfl, rfl⟩
theorem ty10 : TyOk Try.prog 10 ⟨Try.t9.desc, 1, 16, Try.t10.zero⟩ := ⟨Try.underlying10, Try.t10, info_of_run Try.typeInfo10, rfl, rfl, rfl⟩
theorem ty11 : TyOk Try.prog 11 ⟨Try.t9.desc, 1, 16, Try.t11.zero⟩ := ⟨Try.underlying11, Try.t11, info_of_run Try.typeInfo11, rfl, rfl, rfl⟩
theorem ty12 : TyOk Try.prog 12 ⟨Try.t12.desc, 1, 8, Try.t12.zero⟩ := ⟨Try.underlying12, Try.t12, info_of_run Try.typeInfo12, rfl, rfl, rfl⟩
theorem ty13 : TyOk Try.prog 13 ⟨Try.t13.desc, 2, 24, Try.t13.zero⟩ := ⟨Try.underlying13, Try.t13, info_of_run Try.typeInfo13, rfl, rfl, rfl⟩
theorem ty14 : TyOk Try.prog 14 ⟨Try.t13.desc, 2, 24, Try.t14.zero⟩ := ⟨Try.underlying14, Try.t14, info_of_run Try.typeInfo14, rfl, rfl, rfl⟩
theorem ty15 : TyOk Try.prog 15 ⟨Try.t15.desc, 1, 8, Try.t15.zero⟩ := ⟨Try.underlying15, Try.t15, info_of_run Try.typeInfo15, rfl, rfl, rfl⟩
theorem ty16 : TyOk Try.prog 16 ⟨Try.t16.desc, 1, 8, Try.t16.zero⟩ := ⟨Try.underlying16, Try.t16, info_of_run Try.typeInfo16, rfl, rfl, rfl⟩
theorem ty17 : TyOk Try.prog 17 ⟨Try.t17.desc, 1, 8, Try.t17.zero⟩ := ⟨Try.underlying17, Try.t17, info_of_run Try.typeInfo17, rfl, rfl, rfl⟩
theorem ty18 : TyOk Try.prog 18 ⟨Try.t18.desc, 1, 8, Try.t18.zero⟩ := ⟨Try.underlying18, Try.t18, info_of_run Try.typeInfo18, rfl, rfl, rfl⟩
theorem ty19 : TyOk Try.prog 19 ⟨Try.t18.desc, 1, 8, Try.t19.zero⟩ := ⟨Try.underlying19, Try.t19, info_of_run Try.typeInfo19, rfl, rfl, rfl⟩
theorem ty20 : TyOk Try.prog 20 ⟨Try.t20.desc, 1, 16, Try.t20.zero⟩ := ⟨Try.underlying20, Try.t20, info_of_run Try.typeInfo20, rfl, rfl, rfl⟩
theorem ty21 : TyOk Try.prog 21 ⟨Try.t21.desc, 1, 4, Try.t21.zero⟩ := ⟨Try.underlying21, Try.t21, info_of_run Try.typeInfo21, rfl, rfl, rfl⟩
theorem ty22 : TyOk Try.prog 22 ⟨Try.t3.desc, 1, 8, Try.t22.zero⟩ := ⟨Try.underlying22, Try.t22, info_of_run Try.typeInfo22, rfl, rfl, rfl⟩
theorem ty23 : TyOk Try.prog 23 ⟨Try.t23.desc, 3, 24, Try.t23.zero⟩ := ⟨Try.underlying23, Try.t23, info_of_run Try.typeInfo23, rfl, rfl, rfl⟩
theorem ty24 : TyOk Try.prog 24 ⟨Try.t23.desc, 3, 24, Try.t24.zero⟩ := ⟨Try.underlying24, Try.t24, info_of_run Try.typeInfo24, rfl, rfl, rfl⟩
theorem ty25 : TyOk Try.prog 25 ⟨Try.t3.desc, 1, 8, Try.t25.zero⟩ := ⟨Try.underlying25, Try.t25, info_of_run Try.typeInfo25, rfl, rfl, rfl⟩
theorem ty26 : TyOk Try.prog 26 ⟨Try.t26.desc, 1, 0, Try.t26.zero⟩ := ⟨Try.underlying26, Try.t26, info_of_run Try.typeInfo26, rfl, rfl, rfl⟩
theorem ty27 : TyOk Try.prog 27 ⟨Try.t27.desc, 1, 8, Try.t27.zero⟩ := ⟨Try.underlying27, Try.t27, info_of_run Try.typeInfo27, rfl, rfl, rfl⟩
theorem ty28 : TyOk Try.prog 28 ⟨Try.t28.desc, 1, 24, Try.t28.zero⟩ := ⟨Try.underlying28, Try.t28, info_of_run Try.typeInfo28, rfl, rfl, rfl⟩
theorem ty29 : TyOk Try.prog 29 ⟨Try.t29.desc, 1, 0, Try.t29.zero⟩ := ⟨Try.underlying29, Try.t29, info_of_run Try.typeInfo29, rfl, rfl, rfl⟩
theorem ty30 : TyOk Try.prog 30 ⟨Try.t30.desc, 1, 8, Try.t30.zero⟩ := ⟨Try.underlying30, Try.t30, info_of_run Try.typeInfo30, rfl, rfl, rfl⟩
theorem ty31 : TyOk Try.prog 31 ⟨Try.t31.desc, 1, 8, Try.t31.zero⟩ := ⟨Try.underlying31, Try.t31, info_of_run Try.typeInfo31, rfl, rfl, rfl⟩
theorem ty32 : TyOk Try.prog 32 ⟨Try.t32.desc, 1, 8, Try.t32.zero⟩ := ⟨Try.underlying32, Try.t32, info_of_run Try.typeInfo32, rfl, rfl, rfl⟩
theorem ty33 : TyOk Try.prog 33 ⟨Try.t33.desc, 1, 24, Try.t33.zero⟩ := ⟨Try.underlying33, Try.t33, info_of_run Try.typeInfo33, rfl, rfl, rfl⟩
theorem ty34 : TyOk Try.prog 34 ⟨Try.t34.desc, 3, 12, Try.t34.zero⟩ := ⟨Try.underlying34, Try.t34, info_of_run Try.typeInfo34, rfl, rfl, rfl⟩
theorem ty35 : TyOk Try.prog 35 ⟨Try.t35.desc, 1, 8, Try.t35.zero⟩ := ⟨Try.underlying35, Try.t35, info_of_run Try.typeInfo35, rfl, rfl, rfl⟩
theorem ty36 : TyOk Try.prog 36 ⟨Try.t36.desc, 1, 8, Try.t36.zero⟩ := ⟨Try.underlying36, Try.t36, info_of_run Try.typeInfo36, rfl, rfl, rfl⟩
theorem ty37 : TyOk Try.prog 37 ⟨Try.t37.desc, 1, 8, Try.t37.zero⟩ := ⟨Try.underlying37, Try.t37, info_of_run Try.typeInfo37, rfl, rfl, rfl⟩
theorem ty38 : TyOk Try.prog 38 ⟨Try.t38.desc, 6, 48, Try.t38.zero⟩ := ⟨Try.underlying38, Try.t38, info_of_run Try.typeInfo38, rfl, rfl, rfl⟩
theorem ty39 : TyOk Try.prog 39 ⟨Try.t39.desc, 1, 8, Try.t39.zero⟩ := ⟨Try.underlying39, Try.t39, info_of_run Try.typeInfo39, rfl, rfl, rfl⟩
theorem ty40 : TyOk Try.prog 40 ⟨Try.t40.desc, 1, 8, Try.t40.zero⟩ := ⟨Try.underlying40, Try.t40, info_of_run Try.typeInfo40, rfl, rfl, rfl⟩
theorem ty41 : TyOk Try.prog 41 ⟨Try.t41.desc, 1, 8, Try.t41.zero⟩ := ⟨Try.underlying41, Try.t41, info_of_run Try.typeInfo41, rfl, rfl, rfl⟩
theorem ty42 : TyOk Try.prog 42 ⟨Try.t42.desc, 1, 8, Try.t42.zero⟩ := ⟨Try.underlying42, Try.t42, info_of_run Try.typeInfo42, rfl, rfl, rfl⟩
theorem ty43 : TyOk Try.prog 43 ⟨Try.t43.desc, 1, 8, Try.t43.zero⟩ := ⟨Try.underlying43, Try.t43, info_of_run Try.typeInfo43, rfl, rfl, rfl⟩
theorem ty44 : TyOk Try.prog 44 ⟨Try.t44.desc, 1, 8, Try.t44.zero⟩ := ⟨Try.underlying44, Try.t44, info_of_run Try.typeInfo44, rfl, rfl, rfl⟩
theorem ty45 : TyOk Try.prog 45 ⟨Try.t45.desc, 1, 8, Try.t45.zero⟩ := ⟨Try.underlying45, Try.t45, info_of_run Try.typeInfo45, rfl, rfl, rfl⟩
theorem ty46 : TyOk Try.prog 46 ⟨Try.t46.desc, 1, 8, Try.t46.zero⟩ := ⟨Try.underlying46, Try.t46, info_of_run Try.typeInfo46, rfl, rfl, rfl⟩
theorem ty47 : TyOk Try.prog 47 ⟨Try.t47.desc, 1, 24, Try.t47.zero⟩ := ⟨Try.underlying47, Try.t47, info_of_run Try.typeInfo47, rfl, rfl, rfl⟩
theorem ty48 : TyOk Try.prog 48 ⟨Try.t48.desc, 12, 96, Try.t48.zero⟩ := ⟨Try.underlying48, Try.t48, info_of_run Try.typeInfo48, rfl, rfl, rfl⟩
theorem ty49 : TyOk Try.prog 49 ⟨Try.t48.desc, 12, 96, Try.t49.zero⟩ := ⟨Try.underlying49, Try.t49, info_of_run Try.typeInfo49, rfl, rfl, rfl⟩
theorem ty50 : TyOk Try.prog 50 ⟨Try.t50.desc, 1, 8, Try.t50.zero⟩ := ⟨Try.underlying50, Try.t50, info_of_run Try.typeInfo50, rfl, rfl, rfl⟩
theorem ty51 : TyOk Try.prog 51 ⟨Try.t51.desc, 1, 0, Try.t51.zero⟩ := ⟨Try.underlying51, Try.t51, info_of_run Try.typeInfo51, rfl, rfl, rfl⟩
theorem ty52 : TyOk Try.prog 52 ⟨Try.t52.desc, 1, 8, Try.t52.zero⟩ := ⟨Try.underlying52, Try.t52, info_of_run Try.typeInfo52, rfl, rfl, rfl⟩
theorem ty53 : TyOk Try.prog 53 ⟨Try.t53.desc, 1, 8, Try.t53.zero⟩ := ⟨Try.underlying53, Try.t53, info_of_run Try.typeInfo53, rfl, rfl, rfl⟩
theorem ty54 : TyOk Try.prog 54 ⟨Try.t54.desc, 1, 8, Try.t54.zero⟩ := ⟨Try.underlying54, Try.t54, info_of_run Try.typeInfo54, rfl, rfl, rfl⟩
theorem ty55 : TyOk Try.prog 55 ⟨Try.t55.desc, 1, 8, Try.t55.zero⟩ := ⟨Try.underlying55, Try.t55, info_of_run Try.typeInfo55, rfl, rfl, rfl⟩
theorem ty56 : TyOk Try.prog 56 ⟨Try.t56.desc, 1, 8, Try.t56.zero⟩ := ⟨Try.underlying56, Try.t56, info_of_run Try.typeInfo56, rfl, rfl, rfl⟩
theorem ty57 : TyOk Try.prog 57 ⟨Try.t57.desc, 1, 8, Try.t57.zero⟩ := ⟨Try.underlying57, Try.t57, info_of_run Try.typeInfo57, rfl, rfl, rfl⟩
theorem ty58 : TyOk Try.prog 58 ⟨Try.t58.desc, 1, 8, Try.t58.zero⟩ := ⟨Try.underlying58, Try.t58, info_of_run Try.typeInfo58, rfl, rfl, rfl⟩
theorem ty59 : TyOk Try.prog 59 ⟨Try.t59.desc, 1, 8, Try.t59.zero⟩ := ⟨Try.underlying59, Try.t59, info_of_run Try.typeInfo59, rfl, rfl, rfl⟩
theorem ty60 : TyOk Try.prog 60 ⟨Try.t60.desc, 1, 8, Try.t60.zero⟩ := ⟨Try.underlying60, Try.t60, info_of_run Try.typeInfo60, rfl, rfl, rfl⟩
theorem ty61 : TyOk Try.prog 61 ⟨Try.t61.desc, 1, 1, Try.t61.zero⟩ := ⟨Try.underlying61, Try.t61, info_of_run Try.typeInfo61, rfl, rfl, rfl⟩
theorem ty62 : TyOk Try.prog 62 ⟨Try.t62.desc, 12, 12, Try.t62.zero⟩ := ⟨Try.underlying62, Try.t62, info_of_run Try.typeInfo62, rfl, rfl, rfl⟩
theorem ty63 : TyOk Try.prog 63 ⟨Try.t62.desc, 12, 12, Try.t63.zero⟩ := ⟨Try.underlying63, Try.t63, info_of_run Try.typeInfo63, rfl, rfl, rfl⟩
theorem ty64 : TyOk Try.prog 64 ⟨Try.t64.desc, 36, 36, Try.t64.zero⟩ := ⟨Try.underlying64, Try.t64, info_of_run Try.typeInfo64, rfl, rfl, rfl⟩
theorem ty65 : TyOk Try.prog 65 ⟨Try.t65.desc, 1, 8, Try.t65.zero⟩ := ⟨Try.underlying65, Try.t65, info_of_run Try.typeInfo65, rfl, rfl, rfl⟩
theorem ty66 : TyOk Try.prog 66 ⟨Try.t66.desc, 1, 24, Try.t66.zero⟩ := ⟨Try.underlying66, Try.t66, info_of_run Try.typeInfo66, rfl, rfl, rfl⟩
theorem ty67 : TyOk Try.prog 67 ⟨Try.t67.desc, 1, 8, Try.t67.zero⟩ := ⟨Try.underlying67, Try.t67, info_of_run Try.typeInfo67, rfl, rfl, rfl⟩
theorem ty68 : TyOk Try.prog 68 ⟨Try.t68.desc, 1, 8, Try.t68.zero⟩ := ⟨Try.underlying68, Try.t68, info_of_run Try.typeInfo68, rfl, rfl, rfl⟩
theorem ty69 : TyOk Try.prog 69 ⟨Try.t69.desc, 1, 24, Try.t69.zero⟩ := ⟨Try.underlying69, Try.t69, info_of_run Try.typeInfo69, rfl, rfl, rfl⟩
theorem ty70 : TyOk Try.prog 70 ⟨Try.t70.desc, 4, 32, Try.t70.zero⟩ := ⟨Try.underlying70, Try.t70, info_of_run Try.typeInfo70, rfl, rfl, rfl⟩
theorem ty71 : TyOk Try.prog 71 ⟨Try.t70.desc, 4, 32, Try.t71.zero⟩ := ⟨Try.underlying71, Try.t71, info_of_run Try.typeInfo71, rfl, rfl, rfl⟩
theorem ty72 : TyOk Try.prog 72 ⟨Try.t72.desc, 1, 8, Try.t72.zero⟩ := ⟨Try.underlying72, Try.t72, info_of_run Try.typeInfo72, rfl, rfl, rfl⟩
theorem ty73 : TyOk Try.prog 73 ⟨Try.t73.desc, 6, 48, Try.t73.zero⟩ := ⟨Try.underlying73, Try.t73, info_of_run Try.typeInfo73, rfl, rfl, rfl⟩
theorem ty74 : TyOk Try.prog 74 ⟨Try.t73.desc, 6, 48, Try.t74.zero⟩ := ⟨Try.underlying74, Try.t74, info_of_run Try.typeInfo74, rfl, rfl, rfl⟩
theorem ty75 : TyOk Try.prog 75 ⟨Try.t75.desc, 1, 0, Try.t75.zero⟩ := ⟨Try.underlying75, Try.t75, info_of_run Try.typeInfo75, rfl, rfl, rfl⟩
theorem ty76 : TyOk Try.prog 76 ⟨Try.t76.desc, 1, 8, Try.t76.zero⟩ := ⟨Try.underlying76, Try.t76, info_of_run Try.typeInfo76, rfl, rfl, rfl⟩
theorem ty77 : TyOk Try.prog 77 ⟨Try.t77.desc, 1, 8, Try.t77.zero⟩ := ⟨Try.underlying77, Try.t77, info_of_run Try.typeInfo77, rfl, rfl, rfl⟩
theorem ty78 : TyOk Try.prog 78 ⟨Try.t78.desc, 1, 8, Try.t78.zero⟩ := ⟨Try.underlying78, Try.t78, info_of_run Try.typeInfo78, rfl, rfl, rfl⟩
theorem ty79 : TyOk Try.prog 79 ⟨Try.t79.desc, 1, 8, Try.t79.zero⟩ := ⟨Try.underlying79, Try.t79, info_of_run Try.typeInfo79, rfl, rfl, rfl⟩
theorem ty80 : TyOk Try.prog 80 ⟨Try.t80.desc, 1, 8, Try.t80.zero⟩ := ⟨Try.underlying80, Try.t80, info_of_run Try.typeInfo80, rfl, rfl, rfl⟩
theorem ty81 : TyOk Try.prog 81 ⟨Try.t81.desc, 1, 8, Try.t81.zero⟩ := ⟨Try.underlying81, Try.t81, info_of_run Try.typeInfo81, rfl, rfl, rfl⟩
theorem ty82 : TyOk Try.prog 82 ⟨Try.t82.desc, 1, 0, Try.t82.zero⟩ := ⟨Try.underlying82, Try.t82, info_of_run Try.typeInfo82, rfl, rfl, rfl⟩
theorem ty83 : TyOk Try.prog 83 ⟨Try.t83.desc, 1, 8, Try.t83.zero⟩ := ⟨Try.underlying83, Try.t83, info_of_run Try.typeInfo83, rfl, rfl, rfl⟩
theorem ty84 : TyOk Try.prog 84 ⟨Try.t84.desc, 1, 8, Try.t84.zero⟩ := ⟨Try.underlying84, Try.t84, info_of_run Try.typeInfo84, rfl, rfl, rfl⟩
theorem ty85 : TyOk Try.prog 85 ⟨Try.t85.desc, 1, 8, Try.t85.zero⟩ := ⟨Try.underlying85, Try.t85, info_of_run Try.typeInfo85, rfl, rfl, rfl⟩
theorem ty86 : TyOk Try.prog 86 ⟨Try.t86.desc, 1, 8, Try.t86.zero⟩ := ⟨Try.underlying86, Try.t86, info_of_run Try.typeInfo86, rfl, rfl, rfl⟩
theorem ty87 : TyOk Try.prog 87 ⟨Try.t87.desc, 12, 96, Try.t87.zero⟩ := ⟨Try.underlying87, Try.t87, info_of_run Try.typeInfo87, rfl, rfl, rfl⟩
theorem ty88 : TyOk Try.prog 88 ⟨Try.t88.desc, 8, 64, Try.t88.zero⟩ := ⟨Try.underlying88, Try.t88, info_of_run Try.typeInfo88, rfl, rfl, rfl⟩
theorem ty89 : TyOk Try.prog 89 ⟨Try.t89.desc, 1, 8, Try.t89.zero⟩ := ⟨Try.underlying89, Try.t89, info_of_run Try.typeInfo89, rfl, rfl, rfl⟩
theorem ty90 : TyOk Try.prog 90 ⟨Try.t90.desc, 1, 24, Try.t90.zero⟩ := ⟨Try.underlying90, Try.t90, info_of_run Try.typeInfo90, rfl, rfl, rfl⟩
theorem ty91 : TyOk Try.prog 91 ⟨Try.t91.desc, 6, 64, Try.t91.zero⟩ := ⟨Try.underlying91, Try.t91, info_of_run Try.typeInfo91, rfl, rfl, rfl⟩
theorem ty92 : TyOk Try.prog 92 ⟨Try.t91.desc, 6, 64, Try.t92.zero⟩ := ⟨Try.underlying92, Try.t92, info_of_run Try.typeInfo92, rfl, rfl, rfl⟩
theorem ty93 : TyOk Try.prog 93 ⟨Try.t3.desc, 1, 8, Try.t93.zero⟩ := ⟨Try.underlying93, Try.t93, info_of_run Try.typeInfo93, rfl, rfl, rfl⟩
theorem ty94 : TyOk Try.prog 94 ⟨Try.t94.desc, 12, 96, Try.t94.zero⟩ := ⟨Try.underlying94, Try.t94, info_of_run Try.typeInfo94, rfl, rfl, rfl⟩
theorem ty95 : TyOk Try.prog 95 ⟨Try.t94.desc, 12, 96, Try.t95.zero⟩ := ⟨Try.underlying95, Try.t95, info_of_run Try.typeInfo95, rfl, rfl, rfl⟩
theorem ty96 : TyOk Try.prog 96 ⟨Try.t96.desc, 1, 0, Try.t96.zero⟩ := ⟨Try.underlying96, Try.t96, info_of_run Try.typeInfo96, rfl, rfl, rfl⟩
theorem ty97 : TyOk Try.prog 97 ⟨Try.t97.desc, 1, 8, Try.t97.zero⟩ := ⟨Try.underlying97, Try.t97, info_of_run Try.typeInfo97, rfl, rfl, rfl⟩
theorem ty98 : TyOk Try.prog 98 ⟨Try.t98.desc, 1, 8, Try.t98.zero⟩ := ⟨Try.underlying98, Try.t98, info_of_run Try.typeInfo98, rfl, rfl, rfl⟩
theorem ty99 : TyOk Try.prog 99 ⟨Try.t99.desc, 1, 0, Try.t99.zero⟩ := ⟨Try.underlying99, Try.t99, info_of_run Try.typeInfo99, rfl, rfl, rfl⟩
theorem ty100 : TyOk Try.prog 100 ⟨Try.t100.desc, 1, 8, Try.t100.zero⟩ := ⟨Try.underlying100, Try.t100, info_of_run Try.typeInfo100, rfl, rfl, rfl⟩
theorem ty101 : TyOk Try.prog 101 ⟨Try.t101.desc, 1, 8, Try.t101.zero⟩ := ⟨Try.underlying101, Try.t101, info_of_run Try.typeInfo101, rfl, rfl, rfl⟩
theorem ty102 : TyOk Try.prog 102 ⟨Try.t102.desc, 1, 8, Try.t102.zero⟩ := ⟨Try.underlying102, Try.t102, info_of_run Try.typeInfo102, rfl, rfl, rfl⟩
theorem ty103 : TyOk Try.prog 103 ⟨Try.t103.desc, 12, 128, Try.t103.zero⟩ := ⟨Try.underlying103, Try.t103, info_of_run Try.typeInfo103, rfl, rfl, rfl⟩
theorem ty104 : TyOk Try.prog 104 ⟨Try.t104.desc, 1, 8, Try.t104.zero⟩ := ⟨Try.underlying104, Try.t104, info_of_run Try.typeInfo104, rfl, rfl, rfl⟩
theorem ty105 : TyOk Try.prog 105 ⟨Try.t94.desc, 12, 96, Try.t105.zero⟩ := ⟨Try.underlying105, Try.t105, info_of_run Try.typeInfo105, rfl, rfl, rfl⟩
theorem ty106 : TyOk Try.prog 106 ⟨Try.t106.desc, 1, 24, Try.t106.zero⟩ := ⟨Try.underlying106, Try.t106, info_of_run Try.typeInfo106, rfl, rfl, rfl⟩
theorem ty107 : TyOk Try.prog 107 ⟨Try.t107.desc, 1, 8, Try.t107.zero⟩ := ⟨Try.underlying107, Try.t107, info_of_run Try.typeInfo107, rfl, rfl, rfl⟩
theorem ty108 : TyOk Try.prog 108 ⟨Try.t108.desc, 1, 24, Try.t108.zero⟩ := ⟨Try.underlying108, Try.t108, info_of_run Try.typeInfo108, rfl, rfl, rfl⟩
theorem ty109 : TyOk Try.prog 109 ⟨Try.t109.desc, 1, 8, Try.t109.zero⟩ := ⟨Try.underlying109, Try.t109, info_of_run Try.typeInfo109, rfl, rfl, rfl⟩
theorem ty110 : TyOk Try.prog 110 ⟨Try.t110.desc, 1, 8, Try.t110.zero⟩ := ⟨Try.underlying110, Try.t110, info_of_run Try.typeInfo110, rfl, rfl, rfl⟩
theorem ty111 : TyOk Try.prog 111 ⟨Try.t111.desc, 1, 8, Try.t111.zero⟩ := ⟨Try.underlying111, Try.t111, info_of_run Try.typeInfo111, rfl, rfl, rfl⟩
theorem ty112 : TyOk Try.prog 112 ⟨Try.t112.desc, 1, 8, Try.t112.zero⟩ := ⟨Try.underlying112, Try.t112, info_of_run Try.typeInfo112, rfl, rfl, rfl⟩
theorem ty113 : TyOk Try.prog 113 ⟨Try.t113.desc, 1, 8, Try.t113.zero⟩ := ⟨Try.underlying113, Try.t113, info_of_run Try.typeInfo113, rfl, rfl, rfl⟩
theorem ty114 : TyOk Try.prog 114 ⟨Try.t114.desc, 3, 24, Try.t114.zero⟩ := ⟨Try.underlying114, Try.t114, info_of_run Try.typeInfo114, rfl, rfl, rfl⟩
theorem ty115 : TyOk Try.prog 115 ⟨Try.t115.desc, 1, 8, Try.t115.zero⟩ := ⟨Try.underlying115, Try.t115, info_of_run Try.typeInfo115, rfl, rfl, rfl⟩
theorem ty116 : TyOk Try.prog 116 ⟨Try.t116.desc, 1, 8, Try.t116.zero⟩ := ⟨Try.underlying116, Try.t116, info_of_run Try.typeInfo116, rfl, rfl, rfl⟩
theorem ty117 : TyOk Try.prog 117 ⟨Try.t117.desc, 1, 8, Try.t117.zero⟩ := ⟨Try.underlying117, Try.t117, info_of_run Try.typeInfo117, rfl, rfl, rfl⟩
theorem ty118 : TyOk Try.prog 118 ⟨Try.t118.desc, 1, 8, Try.t118.zero⟩ := ⟨Try.underlying118, Try.t118, info_of_run Try.typeInfo118, rfl, rfl, rfl⟩
theorem ty119 : TyOk Try.prog 119 ⟨Try.t119.desc, 1, 8, Try.t119.zero⟩ := ⟨Try.underlying119, Try.t119, info_of_run Try.typeInfo119, rfl, rfl, rfl⟩
theorem ty120 : TyOk Try.prog 120 ⟨Try.t120.desc, 1, 8, Try.t120.zero⟩ := ⟨Try.underlying120, Try.t120, info_of_run Try.typeInfo120, rfl, rfl, rfl⟩
theorem ty121 : TyOk Try.prog 121 ⟨Try.t121.desc, 1, 8, Try.t121.zero⟩ := ⟨Try.underlying121, Try.t121, info_of_run Try.typeInfo121, rfl, rfl, rfl⟩
theorem ty122 : TyOk Try.prog 122 ⟨Try.t122.desc, 1, 8, Try.t122.zero⟩ := ⟨Try.underlying122, Try.t122, info_of_run Try.typeInfo122, rfl, rfl, rfl⟩
theorem ty123 : TyOk Try.prog 123 ⟨Try.t123.desc, 1, 8, Try.t123.zero⟩ := ⟨Try.underlying123, Try.t123, info_of_run Try.typeInfo123, rfl, rfl, rfl⟩
theorem ty124 : TyOk Try.prog 124 ⟨Try.t124.desc, 1, 8, Try.t124.zero⟩ := ⟨Try.underlying124, Try.t124, info_of_run Try.typeInfo124, rfl, rfl, rfl⟩
theorem ty125 : TyOk Try.prog 125 ⟨Try.t125.desc, 1, 8, Try.t125.zero⟩ := ⟨Try.underlying125, Try.t125, info_of_run Try.typeInfo125, rfl, rfl, rfl⟩
theorem ty126 : TyOk Try.prog 126 ⟨Try.t126.desc, 1, 8, Try.t126.zero⟩ := ⟨Try.underlying126, Try.t126, info_of_run Try.typeInfo126, rfl, rfl, rfl⟩
theorem ty127 : TyOk Try.prog 127 ⟨Try.t127.desc, 1, 8, Try.t127.zero⟩ := ⟨Try.underlying127, Try.t127, info_of_run Try.typeInfo127, rfl, rfl, rfl⟩
theorem ty128 : TyOk Try.prog 128 ⟨Try.t128.desc, 1, 8, Try.t128.zero⟩ := ⟨Try.underlying128, Try.t128, info_of_run Try.typeInfo128, rfl, rfl, rfl⟩
theorem ty129 : TyOk Try.prog 129 ⟨Try.t129.desc, 1, 8, Try.t129.zero⟩ := ⟨Try.underlying129, Try.t129, info_of_run Try.typeInfo129, rfl, rfl, rfl⟩
theorem ty130 : TyOk Try.prog 130 ⟨Try.t130.desc, 1, 8, Try.t130.zero⟩ := ⟨Try.underlying130, Try.t130, info_of_run Try.typeInfo130, rfl, rfl, rfl⟩
theorem ty131 : TyOk Try.prog 131 ⟨Try.t131.desc, 1, 8, Try.t131.zero⟩ := ⟨Try.underlying131, Try.t131, info_of_run Try.typeInfo131, rfl, rfl, rfl⟩
theorem ty132 : TyOk Try.prog 132 ⟨Try.t132.desc, 1, 8, Try.t132.zero⟩ := ⟨Try.underlying132, Try.t132, info_of_run Try.typeInfo132, rfl, rfl, rfl⟩
theorem ty133 : TyOk Try.prog 133 ⟨Try.t133.desc, 1, 8, Try.t133.zero⟩ := ⟨Try.underlying133, Try.t133, info_of_run Try.typeInfo133, rfl, rfl, rfl⟩
theorem ty134 : TyOk Try.prog 134 ⟨Try.t134.desc, 1, 8, Try.t134.zero⟩ := ⟨Try.underlying134, Try.t134, info_of_run Try.typeInfo134, rfl, rfl, rfl⟩
theorem ty135 : TyOk Try.prog 135 ⟨Try.t135.desc, 1, 8, Try.t135.zero⟩ := ⟨Try.underlying135, Try.t135, info_of_run Try.typeInfo135, rfl, rfl, rfl⟩
theorem ty136 : TyOk Try.prog 136 ⟨Try.t136.desc, 1, 8, Try.t136.zero⟩ := ⟨Try.underlying136, Try.t136, info_of_run Try.typeInfo136, rfl, rfl, rfl⟩
theorem ty137 : TyOk Try.prog 137 ⟨Try.t137.desc, 1, 8, Try.t137.zero⟩ := ⟨Try.underlying137, Try.t137, info_of_run Try.typeInfo137, rfl, rfl, rfl⟩
theorem ty138 : TyOk Try.prog 138 ⟨Try.t138.desc, 1, 0, Try.t138.zero⟩ := ⟨Try.underlying138, Try.t138, info_of_run Try.typeInfo138, rfl, rfl, rfl⟩
theorem ty139 : TyOk Try.prog 139 ⟨Try.t139.desc, 1, 8, Try.t139.zero⟩ := ⟨Try.underlying139, Try.t139, info_of_run Try.typeInfo139, rfl, rfl, rfl⟩
theorem ty140 : TyOk Try.prog 140 ⟨Try.t140.desc, 1, 8, Try.t140.zero⟩ := ⟨Try.underlying140, Try.t140, info_of_run Try.typeInfo140, rfl, rfl, rfl⟩
theorem ty141 : TyOk Try.prog 141 ⟨Try.t141.desc, 1, 8, Try.t141.zero⟩ := ⟨Try.underlying141, Try.t141, info_of_run Try.typeInfo141, rfl, rfl, rfl⟩
theorem ty142 : TyOk Try.prog 142 ⟨Try.t142.desc, 1, 8, Try.t142.zero⟩ := ⟨Try.underlying142, Try.t142, info_of_run Try.typeInfo142, rfl, rfl, rfl⟩
theorem ty143 : TyOk Try.prog 143 ⟨Try.t143.desc, 1, 8, Try.t143.zero⟩ := ⟨Try.underlying143, Try.t143, info_of_run Try.typeInfo143, rfl, rfl, rfl⟩
theorem ty144 : TyOk Try.prog 144 ⟨Try.t144.desc, 1, 8, Try.t144.zero⟩ := ⟨Try.underlying144, Try.t144, info_of_run Try.typeInfo144, rfl, rfl, rfl⟩
theorem ty145 : TyOk Try.prog 145 ⟨Try.t145.desc, 1, 8, Try.t145.zero⟩ := ⟨Try.underlying145, Try.t145, info_of_run Try.typeInfo145, rfl, rfl, rfl⟩
theorem ty146 : TyOk Try.prog 146 ⟨Try.t146.desc, 4, 40, Try.t146.zero⟩ := ⟨Try.underlying146, Try.t146, info_of_run Try.typeInfo146, rfl, rfl, rfl⟩
theorem ty147 : TyOk Try.prog 147 ⟨Try.t146.desc, 4, 40, Try.t147.zero⟩ := ⟨Try.underlying147, Try.t147, info_of_run Try.typeInfo147, rfl, rfl, rfl⟩
theorem ty148 : TyOk Try.prog 148 ⟨Try.t148.desc, 0, 0, Try.t148.zero⟩ := ⟨Try.underlying148, Try.t148, info_of_run Try.typeInfo148, rfl, rfl, rfl⟩
theorem ty149 : TyOk Try.prog 149 ⟨Try.t149.desc, 0, 0, Try.t149.zero⟩ := ⟨Try.underlying149, Try.t149, info_of_run Try.typeInfo149, rfl, rfl, rfl⟩
theorem ty150 : TyOk Try.prog 150 ⟨Try.t149.desc, 0, 0, Try.t150.zero⟩ := ⟨Try.underlying150, Try.t150, info_of_run Try.typeInfo150, rfl, rfl, rfl⟩
theorem ty151 : TyOk Try.prog 151 ⟨Try.t151.desc, 1, 8, Try.t151.zero⟩ := ⟨Try.underlying151, Try.t151, info_of_run Try.typeInfo151, rfl, rfl, rfl⟩
theorem ty152 : TyOk Try.prog 152 ⟨Try.t152.desc, 1, 4, Try.t152.zero⟩ := ⟨Try.underlying152, Try.t152, info_of_run Try.typeInfo152, rfl, rfl, rfl⟩
theorem ty153 : TyOk Try.prog 153 ⟨Try.t5.desc, 1, 1, Try.t153.zero⟩ := ⟨Try.underlying153, Try.t153, info_of_run Try.typeInfo153, rfl, rfl, rfl⟩
theorem ty154 : TyOk Try.prog 154 ⟨Try.t5.desc, 1, 1, Try.t154.zero⟩ := ⟨Try.underlying154, Try.t154, info_of_run Try.typeInfo154, rfl, rfl, rfl⟩
theorem ty155 : TyOk Try.prog 155 ⟨Try.t155.desc, 1, 8, Try.t155.zero⟩ := ⟨Try.underlying155, Try.t155, info_of_run Try.typeInfo155, rfl, rfl, rfl⟩
theorem ty156 : TyOk Try.prog 156 ⟨Try.t156.desc, 1, 8, Try.t156.zero⟩ := ⟨Try.underlying156, Try.t156, info_of_run Try.typeInfo156, rfl, rfl, rfl⟩
theorem ty157 : TyOk Try.prog 157 ⟨Try.t21.desc, 1, 4, Try.t157.zero⟩ := ⟨Try.underlying157, Try.t157, info_of_run Try.typeInfo157, rfl, rfl, rfl⟩
theorem ty158 : TyOk Try.prog 158 ⟨Try.t21.desc, 1, 4, Try.t158.zero⟩ := ⟨Try.underlying158, Try.t158, info_of_run Try.typeInfo158, rfl, rfl, rfl⟩
theorem ty159 : TyOk Try.prog 159 ⟨Try.t159.desc, 11, 48, Try.t159.zero⟩ := ⟨Try.underlying159, Try.t159, info_of_run Try.typeInfo159, rfl, rfl, rfl⟩
theorem ty160 : TyOk Try.prog 160 ⟨Try.t159.desc, 11, 48, Try.t160.zero⟩ := ⟨Try.underlying160, Try.t160, info_of_run Try.typeInfo160, rfl, rfl, rfl⟩
theorem ty161 : TyOk Try.prog 161 ⟨Try.t161.desc, 1, 8, Try.t161.zero⟩ := ⟨Try.underlying161, Try.t161, info_of_run Try.typeInfo161, rfl, rfl, rfl⟩
theorem tab_all : ∀ p ∈ tab, TyOk Try.prog p.1 p.2 :=
  List.forall_mem_cons.2 ⟨ty0,
  List.forall_mem_cons.2 ⟨ty1,
  List.forall_mem_cons.2 ⟨ty2,
  List.forall_mem_cons.2 ⟨ty3,
  List.forall_mem_cons.2 ⟨ty4,
  List.forall_mem_cons.2 ⟨ty5,
  List.forall_mem_cons.2 ⟨ty6,
  List.forall_mem_cons.2 ⟨ty7,
  List.forall_mem_cons.2 ⟨ty8,
  List.forall_mem_cons.2 ⟨ty9,
  List.forall_mem_cons.2 ⟨ty10,
  List.forall_mem_cons.2 ⟨ty11,
  List.forall_mem_cons.2 ⟨ty12,
  List.forall_mem_cons.2 ⟨ty13,
  List.forall_mem_cons.2 ⟨ty14,
  List.forall_mem_cons.2 ⟨ty15,
  List.forall_mem_cons.2 ⟨ty16,
  List.forall_mem_cons.2 ⟨ty17,
  List.forall_mem_cons.2 ⟨ty18,
  List.forall_mem_cons.2 ⟨ty19,
  List.forall_mem_cons.2 ⟨ty20,
  List.forall_mem_cons.2 ⟨ty21,
  List.forall_mem_cons.2 ⟨ty22,
  List.forall_mem_cons.2 ⟨ty23,
  List.forall_mem_cons.2 ⟨ty24,
  List.forall_mem_cons.2 ⟨ty25,
  List.forall_mem_cons.2 ⟨ty26,
  List.forall_mem_cons.2 ⟨ty27,
  List.forall_mem_cons.2 ⟨ty28,
  List.forall_mem_cons.2 ⟨ty29,
  List.forall_mem_cons.2 ⟨ty30,
  List.forall_mem_cons.2 ⟨ty31,
  List.forall_mem_cons.2 ⟨ty32,
  List.forall_mem_cons.2 ⟨ty33,
  List.forall_mem_cons.2 ⟨ty34,
  List.forall_mem_cons.2 ⟨ty35,
  List.forall_mem_cons.2 ⟨ty36,
  List.forall_mem_cons.2 ⟨ty37,
  List.forall_mem_cons.2 ⟨ty38,
  List.forall_mem_cons.2 ⟨ty39,
  List.forall_mem_cons.2 ⟨ty40,
  List.forall_mem_cons.2 ⟨ty41,
  List.forall_mem_cons.2 ⟨ty42,
  List.forall_mem_cons.2 ⟨ty43,
  List.forall_mem_cons.2 ⟨ty44,
  List.forall_mem_cons.2 ⟨ty45,
  List.forall_mem_cons.2 ⟨ty46,
  List.forall_mem_cons.2 ⟨ty47,
  List.forall_mem_cons.2 ⟨ty48,
  List.forall_mem_cons.2 ⟨ty49,
  List.forall_mem_cons.2 ⟨ty50,
  List.forall_mem_cons.2 ⟨ty51,
  List.forall_mem_cons.2 ⟨ty52,
  List.forall_mem_cons.2 ⟨ty53,
  List.forall_mem_cons.2 ⟨ty54,
  List.forall_mem_cons.2 ⟨ty55,
  List.forall_mem_cons.2 ⟨ty56,
  List.forall_mem_cons.2 ⟨ty57,
  List.forall_mem_cons.2 ⟨ty58,
  List.forall_mem_cons.2 ⟨ty59,
  List.forall_mem_cons.2 ⟨ty60,
  List.forall_mem_cons.2 ⟨ty61,
  List.forall_mem_cons.2 ⟨ty62,
  List.forall_mem_cons.2 ⟨ty63,
  List.forall_mem_cons.2 ⟨ty64,
  List.forall_mem_cons.2 ⟨ty65,
  List.forall_mem_cons.2 ⟨ty66,
  List.forall_mem_cons.2 ⟨ty67,
  List.forall_mem_cons.2 ⟨ty68,
  List.forall_mem_cons.2 ⟨ty69,
  List.forall_mem_cons.2 ⟨ty70,
  List.forall_mem_cons.2 ⟨ty71,
  List.forall_mem_cons.2 ⟨ty72,
  List.forall_mem_cons.2 ⟨ty73,
  List.forall_mem_cons.2 ⟨ty74,
  List.forall_mem_cons.2 ⟨ty75,
  List.forall_mem_cons.2 ⟨ty76,
  List.forall_mem_cons.2 ⟨ty77,
  List.forall_mem_cons.2 ⟨ty78,
  List.forall_mem_cons.2 ⟨ty79,
  List.forall_mem_cons.2 ⟨ty80,
  List.forall_mem_cons.2 ⟨ty81,
  List.forall_mem_cons.2 ⟨ty82,
  List.forall_mem_cons.2 ⟨ty83,
  List.forall_mem_cons.2 ⟨ty84,
  List.forall_mem_cons.2 ⟨ty85,
  List.forall_mem_cons.2 ⟨ty86,
  List.forall_mem_cons.2 ⟨ty87,
  List.forall_mem_cons.2 ⟨ty88,
  List.forall_mem_cons.2 ⟨ty89,
  List.forall_mem_cons.2 ⟨ty90,
  List.forall_mem_cons.2 ⟨ty91,
  List.forall_mem_cons.2 ⟨ty92,
  List.forall_mem_cons.2 ⟨ty93,
  List.forall_mem_cons.2 ⟨ty94,
  List.forall_mem_cons.2 ⟨ty95,
  List.forall_mem_cons.2 ⟨ty96,
  List.forall_mem_cons.2 ⟨ty97,
  List.forall_mem_cons.2 ⟨ty98,
  List.forall_mem_cons.2 ⟨ty99,
  List.forall_mem_cons.2 ⟨ty100,
  List.forall_mem_cons.2 ⟨ty101,
  List.forall_mem_cons.2 ⟨ty102,
  List.forall_mem_cons.2 ⟨ty103,
  List.forall_mem_cons.2 ⟨ty104,
  List.forall_mem_cons.2 ⟨ty105,
  List.forall_mem_cons.2 ⟨ty106,
  List.forall_mem_cons.2 ⟨ty107,
  List.forall_mem_cons.2 ⟨ty108,
  List.forall_mem_cons.2 ⟨ty109,
  List.forall_mem_cons.2 ⟨ty110,
  List.forall_mem_cons.2 ⟨ty111,
  List.forall_mem_cons.2 ⟨ty112,
  List.forall_mem_cons.2 ⟨ty113,
  List.forall_mem_cons.2 ⟨ty114,
  List.forall_mem_cons.2 ⟨ty115,
  List.forall_mem_cons.2 ⟨ty116,
  List.forall_mem_cons.2 ⟨ty117,
  List.forall_mem_cons.2 ⟨ty118,
  List.forall_mem_cons.2 ⟨ty119,
  List.forall_mem_cons.2 ⟨ty120,
  List.forall_mem_cons.2 ⟨ty121,
  List.forall_mem_cons.2 ⟨ty122,
  List.forall_mem_cons.2 ⟨ty123,
  List.forall_mem_cons.2 ⟨ty124,
  List.forall_mem_cons.2 ⟨ty125,
  List.forall_mem_cons.2 ⟨ty126,
  List.forall_mem_cons.2 ⟨ty127,
  List.forall_mem_cons.2 ⟨ty128,
  List.forall_mem_cons.2 ⟨ty129,
  List.forall_mem_cons.2 ⟨ty130,
  List.forall_mem_cons.2 ⟨ty131,
  List.forall_mem_cons.2 ⟨ty132,
  List.forall_mem_cons.2 ⟨ty133,
  List.forall_mem_cons.2 ⟨ty134,
  List.forall_mem_cons.2 ⟨ty135,
  List.forall_mem_cons.2 ⟨ty136,
  List.forall_mem_cons.2 ⟨ty137,
  List.forall_mem_cons.2 ⟨ty138,
  List.forall_mem_cons.2 ⟨ty139,
  List.forall_mem_cons.2 ⟨ty140,
  List.forall_mem_cons.2 ⟨ty141,
  List.forall_mem_cons.2 ⟨ty142,
  List.forall_mem_cons.2 ⟨ty143,
  List.forall_mem_cons.2 ⟨ty144,
  List.forall_mem_cons.2 ⟨ty145,
  List.forall_mem_cons.2 ⟨ty146,
  List.forall_mem_cons.2 ⟨ty147,
  List.forall_mem_cons.2 ⟨ty148,
  List.forall_mem_cons.2 ⟨ty149,
  List.forall_mem_cons.2 ⟨ty150,
  List.forall_mem_cons.2 ⟨ty151,
  List.forall_mem_cons.2 ⟨ty152,
  List.forall_mem_cons.2 ⟨ty153,
  List.forall_mem_cons.2 ⟨ty154,
  List.forall_mem_cons.2 ⟨ty155,
  List.forall_mem_cons.2 ⟨ty156,
  List.forall_mem_cons.2 ⟨ty157,
  List.forall_mem_cons.2 ⟨ty158,
  List.forall_mem_cons.2 ⟨ty159,
  List.forall_mem_cons.2 ⟨ty160,
  List.forall_mem_cons.2 ⟨ty161,
  fun _ hp => absurd hp List.not_mem_nil⟩⟩⟩⟩⟩⟩⟩⟩⟩⟩⟩⟩⟩⟩⟩⟩⟩⟩⟩⟩⟩⟩⟩⟩⟩⟩⟩⟩⟩⟩⟩⟩⟩⟩⟩⟩⟩⟩⟩⟩⟩⟩⟩⟩⟩⟩⟩⟩⟩⟩⟩⟩⟩⟩⟩⟩⟩⟩⟩⟩⟩⟩⟩⟩⟩⟩⟩⟩⟩⟩⟩⟩⟩⟩⟩⟩⟩⟩⟩⟩⟩⟩⟩⟩⟩⟩⟩⟩⟩⟩⟩⟩⟩⟩⟩⟩⟩⟩⟩⟩⟩⟩⟩⟩⟩⟩⟩⟩⟩⟩⟩⟩⟩⟩⟩⟩⟩⟩⟩⟩⟩⟩⟩⟩⟩⟩⟩⟩⟩⟩⟩⟩⟩⟩⟩⟩⟩⟩⟩⟩⟩⟩⟩⟩⟩⟩⟩⟩⟩⟩⟩⟩⟩⟩⟩⟩⟩⟩⟩⟩⟩⟩
noncomputable def E : Env := { P := Try.prog, tab := tab, ok := tab_ok tab_all, mixed := by kernel_rfl }
theorem eqty22 (d : Nat) : EqTy E (d + 1) 22 [.int] := EqTy.int rfl rfl
theorem eqty24 (d : Nat) : EqTy E (d + 2) 24 [.int, .int, .int] := EqTy.arr rfl rfl (eqty22 _) rfl
theorem eqty49 (d : Nat) : EqTy E (d + 2) 49 [.int, .int, .int, .int, .int, .int, .int, .int, .int, .int, .int, .int] := EqTy.arr rfl rfl (eqty22 _) rfl
theorem eqty71 (d : Nat) : EqTy E (d + 3) 71 [.int, .int, .int, .int] := by
  refine (EqTy.struct rfl rfl Try.stoodInHeld71 (EqFs.cons rfl ?_ (eqty24 _) (EqFs.cons rfl ?_ (eqty22 _) (EqFs.nil) rfl) rfl)) <;> decide
theorem eqty74 (d : Nat) : EqTy E (d + 3) 74 [.int, .int, .int, .int, .int, .int] := by
  refine (EqTy.struct rfl rfl Try.stoodInHeld74 (EqFs.cons rfl ?_ (eqty24 _) (EqFs.cons rfl ?_ (eqty24 _) (EqFs.nil) rfl) rfl)) <;> decide
def eqs : List (Nat × List Kd) := [(24, [.int, .int, .int]), (49, [.int, .int, .int, .int, .int, .int, .int, .int, .int, .int, .int, .int]), (71, [.int, .int, .int, .int]), (74, [.int, .int, .int, .int, .int, .int])]
theorem eqs_ok : EqT E eqs :=
  EqT.cons (eqty24 9998) (by kernel_rfl) (
  EqT.cons (eqty49 9998) (by kernel_rfl) (
  EqT.cons (eqty71 9997) (by kernel_rfl) (
  EqT.cons (eqty74 9997) (by kernel_rfl) (
  EqT.nil))))
end Go.Proofs.Ytmgckodihnmjoaa
