/-
  What is known of the types of this program. Conditions: none.
-/
import Derived.Test.YthkoinngmcpjgaaKD
import Derived.Test.YthkoinngmcpjgaaProg
namespace Go.Proofs.Ythkoinngmcpjgaa
set_option maxRecDepth 100000
noncomputable def tab : List (Nat × Ty) := [
  (0, ⟨Try.t0.desc, 1, 0, Try.t0.zero⟩),
  (1, ⟨Try.t1.desc, 1, 8, Try.t1.zero⟩),
  (2, ⟨Try.t2.desc, 1, 8, Try.t2.zero⟩),
  (3, ⟨Try.t3.desc, 1, 8, Try.t3.zero⟩),
  (4, ⟨Try.t4.desc, 1, 1, Try.t4.zero⟩),
  (5, ⟨Try.t5.desc, 1, 1, Try.t5.zero⟩),
  (6, ⟨Try.t5.desc, 1, 1, Try.t6.zero⟩),
  (7, ⟨Try.t7.desc, 4, 24, Try.t7.zero⟩),
  (8, ⟨Try.t7.desc, 4, 24, Try.t8.zero⟩),
  (9, ⟨Try.t9.desc, 1, 16, Try.t9.zero⟩),
  (10, ⟨Try.t9.desc, 1, 16, Try.t10.zero⟩),
  (11, ⟨Try.t9.desc, 1, 16, Try.t11.zero⟩),
  (12, ⟨Try.t12.desc, 1, 8, Try.t12.zero⟩),
  (13, ⟨Try.t13.desc, 2, 24, Try.t13.zero⟩),
  (14, ⟨Try.t13.desc, 2, 24, Try.t14.zero⟩),
  (15, ⟨Try.t15.desc, 1, 8, Try.t15.zero⟩),
  (16, ⟨Try.t16.desc, 1, 8, Try.t16.zero⟩),
  (17, ⟨Try.t17.desc, 1, 8, Try.t17.zero⟩),
  (18, ⟨Try.t18.desc, 1, 8, Try.t18.zero⟩),
  (19, ⟨Try.t18.desc, 1, 8, Try.t19.zero⟩),
  (20, ⟨Try.t20.desc, 1, 16, Try.t20.zero⟩),
  (21, ⟨Try.t21.desc, 1, 4, Try.t21.zero⟩),
  (22, ⟨Try.t22.desc, 1, 24, Try.t22.zero⟩),
  (23, ⟨Try.t23.desc, 1, 8, Try.t23.zero⟩),
  (24, ⟨Try.t24.desc, 1, 8, Try.t24.zero⟩),
  (25, ⟨Try.t25.desc, 1, 8, Try.t25.zero⟩),
  (26, ⟨Try.t26.desc, 1, 24, Try.t26.zero⟩),
  (27, ⟨Try.t27.desc, 7, 72, Try.t27.zero⟩),
  (28, ⟨Try.t27.desc, 7, 72, Try.t28.zero⟩),
  (29, ⟨Try.t29.desc, 1, 8, Try.t29.zero⟩),
  (30, ⟨Try.t30.desc, 1, 8, Try.t30.zero⟩),
  (31, ⟨Try.t3.desc, 1, 8, Try.t31.zero⟩),
  (32, ⟨Try.t32.desc, 1, 0, Try.t32.zero⟩),
  (33, ⟨Try.t33.desc, 1, 8, Try.t33.zero⟩),
  (34, ⟨Try.t34.desc, 1, 8, Try.t34.zero⟩),
  (35, ⟨Try.t35.desc, 1, 8, Try.t35.zero⟩),
  (36, ⟨Try.t36.desc, 1, 8, Try.t36.zero⟩),
  (37, ⟨Try.t37.desc, 1, 8, Try.t37.zero⟩),
  (38, ⟨Try.t38.desc, 1, 8, Try.t38.zero⟩),
  (39, ⟨Try.t39.desc, 1, 8, Try.t39.zero⟩),
  (40, ⟨Try.t40.desc, 1, 8, Try.t40.zero⟩),
  (41, ⟨Try.t41.desc, 1, 8, Try.t41.zero⟩),
  (42, ⟨Try.t3.desc, 1, 8, Try.t42.zero⟩),
  (43, ⟨Try.t3.desc, 1, 8, Try.t43.zero⟩),
  (44, ⟨Try.t44.desc, 12, 96, Try.t44.zero⟩),
  (45, ⟨Try.t44.desc, 12, 96, Try.t45.zero⟩),
  (46, ⟨Try.t46.desc, 3, 24, Try.t46.zero⟩),
  (47, ⟨Try.t46.desc, 3, 24, Try.t47.zero⟩),
  (48, ⟨Try.t48.desc, 6, 48, Try.t48.zero⟩),
  (49, ⟨Try.t48.desc, 6, 48, Try.t49.zero⟩),
  (50, ⟨Try.t50.desc, 24, 192, Try.t50.zero⟩),
  (51, ⟨Try.t50.desc, 24, 192, Try.t51.zero⟩),
  (52, ⟨Try.t52.desc, 48, 384, Try.t52.zero⟩),
  (53, ⟨Try.t53.desc, 1, 24, Try.t53.zero⟩),
  (54, ⟨Try.t54.desc, 1, 0, Try.t54.zero⟩),
  (55, ⟨Try.t55.desc, 1, 8, Try.t55.zero⟩),
  (56, ⟨Try.t56.desc, 1, 8, Try.t56.zero⟩),
  (57, ⟨Try.t57.desc, 1, 0, Try.t57.zero⟩),
  (58, ⟨Try.t58.desc, 1, 8, Try.t58.zero⟩),
  (59, ⟨Try.t59.desc, 1, 8, Try.t59.zero⟩),
  (60, ⟨Try.t60.desc, 1, 8, Try.t60.zero⟩),
  (61, ⟨Try.t61.desc, 1, 8, Try.t61.zero⟩),
  (62, ⟨Try.t62.desc, 1, 8, Try.t62.zero⟩),
  (63, ⟨Try.t3.desc, 1, 8, Try.t63.zero⟩),
  (64, ⟨Try.t64.desc, 1, 8, Try.t64.zero⟩),
  (65, ⟨Try.t65.desc, 1, 8, Try.t65.zero⟩),
  (66, ⟨Try.t66.desc, 1, 8, Try.t66.zero⟩),
  (67, ⟨Try.t67.desc, 1, 8, Try.t67.zero⟩),
  (68, ⟨Try.t68.desc, 1, 8, Try.t68.zero⟩),
  (69, ⟨Try.t69.desc, 1, 24, Try.t69.zero⟩),
  (70, ⟨Try.t70.desc, 1, 0, Try.t70.zero⟩),
  (71, ⟨Try.t71.desc, 1, 8, Try.t71.zero⟩),
  (72, ⟨Try.t72.desc, 1, 8, Try.t72.zero⟩),
  (73, ⟨Try.t73.desc, 1, 8, Try.t73.zero⟩),
  (74, ⟨Try.t74.desc, 1, 0, Try.t74.zero⟩),
  (75, ⟨Try.t75.desc, 1, 8, Try.t75.zero⟩),
  (76, ⟨Try.t76.desc, 1, 8, Try.t76.zero⟩),
  (77, ⟨Try.t77.desc, 1, 8, Try.t77.zero⟩),
  (78, ⟨Try.t78.desc, 1, 8, Try.t78.zero⟩),
  (79, ⟨Try.t79.desc, 1, 4, Try.t79.zero⟩),
  (80, ⟨Try.t80.desc, 1, 8, Try.t80.zero⟩),
  (81, ⟨Try.t81.desc, 1, 8, Try.t81.zero⟩),
  (82, ⟨Try.t82.desc, 1, 24, Try.t82.zero⟩),
  (83, ⟨Try.t83.desc, 1, 8, Try.t83.zero⟩),
  (84, ⟨Try.t84.desc, 1, 8, Try.t84.zero⟩),
  (85, ⟨Try.t85.desc, 1, 24, Try.t85.zero⟩),
  (86, ⟨Try.t86.desc, 5, 72, Try.t86.zero⟩),
  (87, ⟨Try.t86.desc, 5, 72, Try.t87.zero⟩),
  (88, ⟨Try.t88.desc, 1, 0, Try.t88.zero⟩),
  (89, ⟨Try.t89.desc, 1, 8, Try.t89.zero⟩),
  (90, ⟨Try.t90.desc, 1, 8, Try.t90.zero⟩),
  (91, ⟨Try.t91.desc, 1, 8, Try.t91.zero⟩),
  (92, ⟨Try.t92.desc, 1, 8, Try.t92.zero⟩),
  (93, ⟨Try.t93.desc, 1, 8, Try.t93.zero⟩),
  (94, ⟨Try.t94.desc, 1, 8, Try.t94.zero⟩),
  (95, ⟨Try.t95.desc, 1, 8, Try.t95.zero⟩),
  (96, ⟨Try.t96.desc, 1, 8, Try.t96.zero⟩),
  (97, ⟨Try.t97.desc, 1, 8, Try.t97.zero⟩),
  (98, ⟨Try.t98.desc, 1, 8, Try.t98.zero⟩),
  (99, ⟨Try.t3.desc, 1, 8, Try.t99.zero⟩),
  (100, ⟨Try.t100.desc, 1, 8, Try.t100.zero⟩),
  (101, ⟨Try.t101.desc, 7, 56, Try.t101.zero⟩),
  (102, ⟨Try.t101.desc, 7, 56, Try.t102.zero⟩),
  (103, ⟨Try.t103.desc, 1, 8, Try.t103.zero⟩),
  (104, ⟨Try.t104.desc, 1, 8, Try.t104.zero⟩),
  (105, ⟨Try.t104.desc, 1, 8, Try.t105.zero⟩),
  (106, ⟨Try.t106.desc, 1, 8, Try.t106.zero⟩),
  (107, ⟨Try.t107.desc, 1, 8, Try.t107.zero⟩),
  (108, ⟨Try.t108.desc, 1, 8, Try.t108.zero⟩),
  (109, ⟨Try.t109.desc, 1, 8, Try.t109.zero⟩),
  (110, ⟨Try.t110.desc, 1, 8, Try.t110.zero⟩),
  (111, ⟨Try.t111.desc, 1, 8, Try.t111.zero⟩),
  (112, ⟨Try.t112.desc, 1, 8, Try.t112.zero⟩),
  (113, ⟨Try.t113.desc, 1, 8, Try.t113.zero⟩),
  (114, ⟨Try.t114.desc, 1, 8, Try.t114.zero⟩),
  (115, ⟨Try.t115.desc, 1, 8, Try.t115.zero⟩),
  (116, ⟨Try.t116.desc, 1, 8, Try.t116.zero⟩),
  (117, ⟨Try.t117.desc, 1, 8, Try.t117.zero⟩),
  (118, ⟨Try.t118.desc, 1, 8, Try.t118.zero⟩),
  (119, ⟨Try.t119.desc, 1, 8, Try.t119.zero⟩),
  (120, ⟨Try.t120.desc, 1, 8, Try.t120.zero⟩),
  (121, ⟨Try.t121.desc, 1, 8, Try.t121.zero⟩),
  (122, ⟨Try.t122.desc, 1, 8, Try.t122.zero⟩),
  (123, ⟨Try.t123.desc, 1, 8, Try.t123.zero⟩),
  (124, ⟨Try.t124.desc, 1, 8, Try.t124.zero⟩),
  (125, ⟨Try.t125.desc, 1, 8, Try.t125.zero⟩),
  (126, ⟨Try.t125.desc, 1, 8, Try.t126.zero⟩),
  (127, ⟨Try.t127.desc, 1, 8, Try.t127.zero⟩),
  (128, ⟨Try.t128.desc, 1, 8, Try.t128.zero⟩),
  (129, ⟨Try.t129.desc, 2, 32, Try.t129.zero⟩),
  (130, ⟨Try.t129.desc, 2, 32, Try.t130.zero⟩),
  (131, ⟨Try.t131.desc, 1, 8, Try.t131.zero⟩),
  (132, ⟨Try.t132.desc, 1, 8, Try.t132.zero⟩),
  (133, ⟨Try.t133.desc, 1, 8, Try.t133.zero⟩),
  (134, ⟨Try.t134.desc, 1, 8, Try.t134.zero⟩),
  (135, ⟨Try.t135.desc, 1, 8, Try.t135.zero⟩),
  (136, ⟨Try.t136.desc, 32, 256, Try.t136.zero⟩),
  (137, ⟨Try.t137.desc, 1, 0, Try.t137.zero⟩),
  (138, ⟨Try.t138.desc, 1, 8, Try.t138.zero⟩),
  (139, ⟨Try.t139.desc, 1, 8, Try.t139.zero⟩),
  (140, ⟨Try.t140.desc, 1, 8, Try.t140.zero⟩),
  (141, ⟨Try.t141.desc, 1, 8, Try.t141.zero⟩),
  (142, ⟨Try.t142.desc, 1, 8, Try.t142.zero⟩),
  (143, ⟨Try.t143.desc, 1, 8, Try.t143.zero⟩),
  (144, ⟨Try.t144.desc, 1, 8, Try.t144.zero⟩),
  (145, ⟨Try.t145.desc, 1, 8, Try.t145.zero⟩),
  (146, ⟨Try.t146.desc, 1, 8, Try.t146.zero⟩),
  (147, ⟨Try.t147.desc, 1, 8, Try.t147.zero⟩),
  (148, ⟨Try.t148.desc, 1, 8, Try.t148.zero⟩),
  (149, ⟨Try.t149.desc, 1, 8, Try.t149.zero⟩),
  (150, ⟨Try.t150.desc, 1, 8, Try.t150.zero⟩),
  (151, ⟨Try.t151.desc, 1, 8, Try.t151.zero⟩),
  (152, ⟨Try.t152.desc, 1, 8, Try.t152.zero⟩),
  (153, ⟨Try.t153.desc, 1, 8, Try.t153.zero⟩),
  (154, ⟨Try.t154.desc, 1, 8, Try.t154.zero⟩),
  (155, ⟨Try.t155.desc, 1, 8, Try.t155.zero⟩),
  (156, ⟨Try.t101.desc, 7, 56, Try.t156.zero⟩),
  (157, ⟨Try.t157.desc, 1, 8, Try.t157.zero⟩),
  (158, ⟨Try.t158.desc, 1, 8, Try.t158.zero⟩),
  (159, ⟨Try.t159.desc, 1, 8, Try.t159.zero⟩),
  (160, ⟨Try.t160.desc, 1, 8, Try.t160.zero⟩),
  (161, ⟨Try.t161.desc, 1, 8, Try.t161.zero⟩),
  (162, ⟨Try.t162.desc, 1, 8, Try.t162.zero⟩),
  (163, ⟨Try.t163.desc, 1, 24, Try.t163.zero⟩),
  (164, ⟨Try.t164.desc, 1, 8, Try.t164.zero⟩),
  (165, ⟨Try.t165.desc, 1, 8, Try.t165.zero⟩),
  (166, ⟨Try.t166.desc, 1, 24, Try.t166.zero⟩),
  (167, ⟨Try.t167.desc, 1, 24, Try.t167.zero⟩),
  (168, ⟨Try.t168.desc, 1, 8, Try.t168.zero⟩),
  (169, ⟨Try.t169.desc, 1, 8, Try.t169.zero⟩),
  (170, ⟨Try.t170.desc, 1, 8, Try.t170.zero⟩),
  (171, ⟨Try.t171.desc, 1, 8, Try.t171.zero⟩),
  (172, ⟨Try.t172.desc, 1, 8, Try.t172.zero⟩),
  (173, ⟨Try.t173.desc, 1, 24, Try.t173.zero⟩),
  (174, ⟨Try.t174.desc, 1, 8, Try.t174.zero⟩),
  (175, ⟨Try.t175.desc, 2, 32, Try.t175.zero⟩),
  (176, ⟨Try.t175.desc, 2, 32, Try.t176.zero⟩),
  (177, ⟨Try.t177.desc, 1, 8, Try.t177.zero⟩),
  (178, ⟨Try.t178.desc, 1, 8, Try.t178.zero⟩),
  (179, ⟨Try.t179.desc, 1, 8, Try.t179.zero⟩),
  (180, ⟨Try.t180.desc, 1, 8, Try.t180.zero⟩),
  (181, ⟨Try.t181.desc, 1, 8, Try.t181.zero⟩),
  (182, ⟨Try.t182.desc, 1, 8, Try.t182.zero⟩),
  (183, ⟨Try.t183.desc, 2, 32, Try.t183.zero⟩),
  (184, ⟨Try.t183.desc, 2, 32, Try.t184.zero⟩),
  (185, ⟨Try.t185.desc, 1, 8, Try.t185.zero⟩),
  (186, ⟨Try.t186.desc, 1, 8, Try.t186.zero⟩),
  (187, ⟨Try.t187.desc, 0, 0, Try.t187.zero⟩),
  (188, ⟨Try.t187.desc, 0, 0, Try.t188.zero⟩),
  (189, ⟨Try.t189.desc, 1, 8, Try.t189.zero⟩),
  (190, ⟨Try.t190.desc, 1, 8, Try.t190.zero⟩),
  (191, ⟨Try.t191.desc, 1, 8, Try.t191.zero⟩),
  (192, ⟨Try.t192.desc, 1, 8, Try.t192.zero⟩),
  (193, ⟨Try.t193.desc, 1, 8, Try.t193.zero⟩),
  (194, ⟨Try.t194.desc, 1, 8, Try.t194.zero⟩),
  (195, ⟨Try.t195.desc, 1, 8, Try.t195.zero⟩),
  (196, ⟨Try.t196.desc, 2, 16, Try.t196.zero⟩),
  (197, ⟨Try.t196.desc, 2, 16, Try.t197.zero⟩),
  (198, ⟨Try.t198.desc, 1, 8, Try.t198.zero⟩),
  (199, ⟨Try.t199.desc, 1, 8, Try.t199.zero⟩),
  (200, ⟨Try.t200.desc, 1, 8, Try.t200.zero⟩),
  (201, ⟨Try.t201.desc, 1, 8, Try.t201.zero⟩),
  (202, ⟨Try.t202.desc, 1, 8, Try.t202.zero⟩),
  (203, ⟨Try.t203.desc, 1, 8, Try.t203.zero⟩),
  (204, ⟨Try.t204.desc, 1, 8, Try.t204.zero⟩),
  (205, ⟨Try.t205.desc, 1, 0, Try.t205.zero⟩),
  (206, ⟨Try.t206.desc, 1, 8, Try.t206.zero⟩),
  (207, ⟨Try.t207.desc, 1, 8, Try.t207.zero⟩),
  (208, ⟨Try.t208.desc, 1, 8, Try.t208.zero⟩),
  (209, ⟨Try.t209.desc, 1, 8, Try.t209.zero⟩),
  (210, ⟨Try.t210.desc, 1, 8, Try.t210.zero⟩),
  (211, ⟨Try.t211.desc, 2, 16, Try.t211.zero⟩),
  (212, ⟨Try.t211.desc, 2, 16, Try.t212.zero⟩),
  (213, ⟨Try.t213.desc, 10, 80, Try.t213.zero⟩),
  (214, ⟨Try.t214.desc, 1, 8, Try.t214.zero⟩),
  (215, ⟨Try.t215.desc, 1, 8, Try.t215.zero⟩),
  (216, ⟨Try.t216.desc, 1, 8, Try.t216.zero⟩),
  (217, ⟨Try.t217.desc, 1, 8, Try.t217.zero⟩),
  (218, ⟨Try.t3.desc, 1, 8, Try.t218.zero⟩),
  (219, ⟨Try.t219.desc, 1, 0, Try.t219.zero⟩),
  (220, ⟨Try.t220.desc, 1, 8, Try.t220.zero⟩),
  (221, ⟨Try.t221.desc, 1, 8, Try.t221.zero⟩),
  (222, ⟨Try.t222.desc, 1, 8, Try.t222.zero⟩),
  (223, ⟨Try.t223.desc, 1, 0, Try.t223.zero⟩),
  (224, ⟨Try.t224.desc, 1, 8, Try.t224.zero⟩),
  (225, ⟨Try.t225.desc, 1, 8, Try.t225.zero⟩),
  (226, ⟨Try.t226.desc, 1, 8, Try.t226.zero⟩),
  (227, ⟨Try.t227.desc, 1, 8, Try.t227.zero⟩),
  (228, ⟨Try.t228.desc, 1, 24, Try.t228.zero⟩),
  (229, ⟨Try.t229.desc, 1, 8, Try.t229.zero⟩),
  (230, ⟨Try.t230.desc, 1, 8, Try.t230.zero⟩),
  (231, ⟨Try.t231.desc, 1, 0, Try.t231.zero⟩),
  (232, ⟨Try.t232.desc, 1, 0, Try.t232.zero⟩),
  (233, ⟨Try.t233.desc, 1, 8, Try.t233.zero⟩),
  (234, ⟨Try.t227.desc, 1, 8, Try.t234.zero⟩),
  (235, ⟨Try.t235.desc, 1, 8, Try.t235.zero⟩),
  (236, ⟨Try.t236.desc, 1, 8, Try.t236.zero⟩),
  (237, ⟨Try.t237.desc, 1, 8, Try.t237.zero⟩),
  (238, ⟨Try.t238.desc, 1, 8, Try.t238.zero⟩),
  (239, ⟨Try.t239.desc, 1, 8, Try.t239.zero⟩),
  (240, ⟨Try.t240.desc, 1, 8, Try.t240.zero⟩),
  (241, ⟨Try.t241.desc, 1, 8, Try.t241.zero⟩),
  (242, ⟨Try.t242.desc, 4, 40, Try.t242.zero⟩),
  (243, ⟨Try.t242.desc, 4, 40, Try.t243.zero⟩),
  (244, ⟨Try.t244.desc, 0, 0, Try.t244.zero⟩),
  (245, ⟨Try.t245.desc, 0, 0, Try.t245.zero⟩),
  (246, ⟨Try.t245.desc, 0, 0, Try.t246.zero⟩),
  (247, ⟨Try.t5.desc, 1, 1, Try.t247.zero⟩),
  (248, ⟨Try.t5.desc, 1, 1, Try.t248.zero⟩),
  (249, ⟨Try.t249.desc, 1, 8, Try.t249.zero⟩),
  (250, ⟨Try.t250.desc, 1, 8, Try.t250.zero⟩),
  (251, ⟨Try.t21.desc, 1, 4, Try.t251.zero⟩),
  (252, ⟨Try.t21.desc, 1, 4, Try.t252.zero⟩),
  (253, ⟨Try.t253.desc, 11, 48, Try.t253.zero⟩),
  (254, ⟨Try.t253.desc, 11, 48, Try.t254.zero⟩),
  (255, ⟨Try.t255.desc, 1, 8, Try.t255.zero⟩)]
theorem ty0 : TyOk Try.prog 0 ⟨Try.t0.desc, 1, 0, Try.t0.zero⟩ := ⟨Try.underlying0, Try.t0, info_of_run Try.typeInfo0, rfl, rfl, rfl⟩
theorem ty1 : TyOk Try.prog 1 ⟨Try.t1.desc, 1, 8, Try.t1.zero⟩ := ⟨Try.underlying1, Try.t1, info_of_run Try.typeInfo1, rfl, rfl, rfl⟩
theorem ty2 : TyOk Try.prog 2 ⟨Try.t2.desc, 1, 8, Try.t2.zero⟩ := ⟨Try.underlying2, Try.t2, info_of_run Try.typeInfo2, rfl, rfl, rfl⟩
theorem ty3 : TyOk Try.prog 3 ⟨Try.t3.desc, 1, 8, Try.t3.zero⟩ := ⟨Try.underlying3, Try.t3, info_of_run Try.typeInfo3, rfl, rfl, rfl⟩
theorem ty4 : TyOk Try.prog 4 ⟨Try.t4.desc, 1, 1, Try.t4.zero⟩ := ⟨Try.underlying4, Try.t4, info_of_run Try.typeInfo4, rfl, rfl, rfl⟩
theorem ty5 : TyOk Try.prog 5 ⟨Try.t5.desc, 1, 1, Try.t5.zero⟩ := ⟨Try.underlying5, Try.t5, info_of_run Try.typeInfo5, rfl, rfl, rfl⟩
theorem ty6 : TyOk Try.prog 6 ⟨Try.t5.desc, 1, 1, Try.t6.zero⟩ := ⟨Try.underlying6, Try.t6, info_of_run Try.typeInfo6, rfl, rfl, rfl⟩
theorem ty7 : TyOk Try.prog 7 ⟨Try.t7.desc, 4, 24, Try.t7.zero⟩ := ⟨Try.underlying7, Try.t7, info_of_run Try.typeInfo7, rfl, rfl, rfl⟩
theorem ty8 : TyOk Try.prog 8 ⟨Try.t7.desc, 4, 24, Try.t8.zero⟩ := ⟨Try.underlying8, Try.t8, info_of_run Try.typeInfo8, rfl, rfl, rfl⟩
theorem ty9 : TyOk Try.prog 9 ⟨Try.t9.desc, 1, 16, Try.t9.zero⟩ := ⟨Try.underlying9, Try.t9, info_of_run Try.typeInfo9, rfl, rfl, rfl⟩
theorem ty10 : TyOk Try.prog 10 ⟨Try.t9.desc, 1, 16, Try.t10.zero⟩ := ⟨Try.underlying10, Try.t10, info_of_run Try.typeInfo10, rfl, rfl, rfl⟩
theorem ty11 : TyOk Try.prog 11 ⟨Try.t9.desc, 1, 16, Try.t11.zero⟩ := ⟨Try.underlying11, Try.t11, info_of_run Try.typeInfo11, rfl, rfl, rfl⟩
theorem ty12 : TyOk Try.prog 12 ⟨Try.t12.desc, 1, 8, Try.t12.zero⟩ := ⟨Try.underlying12, Try.t12, info_of_run Try.typeInfo12, rfl, rfl, rfl⟩
theorem ty13 : TyOk Try.prog 13 ⟨Try.t13.desc, 2, 24, Try.t13.zero⟩ := ⟨Try.underlying13, Try.t13, info_of_run Try.typeInfo13, rfl, rfl, rfl⟩
theorem ty14 : TyOk Try.prog 14 ⟨Try.t13.desc, 2, 24, Try.t14.zero⟩ := ⟨Try.underlying14, Try.t14, info_of_run Try.typeInfo14, rfl, rfl, rfl⟩
theorem ty15 : TyOk Try.prog 15 ⟨Try.t15.desc, 1, 8, Try.t15.zero⟩ := ⟨Try.underlying15, Try.t15, info_of_run Try.typeInfo15, rfl, rfl, rfl⟩
theorem ty16 : TyOk Try.prog 16 ⟨Try.t16.desc, 1, 8, Try.t16.zero⟩ := ⟨Try.underlying16, Try.t16, info_of_run Try.typeInfo16, rfl, rfl, rfl⟩
theorem ty17 : TyOk Try.prog 17 ⟨Try.t17.desc, 1, 8, Try.t17.zero⟩ := ⟨Try.underlying17, Try.t17, info_of_run Try.typeInfo17, rfl, rfl, rfl⟩
theorem ty18 : TyOk Try.prog 18 ⟨Try.t18.desc, 1, 8, Try.t18.zero⟩ := ⟨Try.underlying18, Try.t18, info_of_run Try.typeInfo18, rfl, rfl, rfl⟩
theorem ty19 : TyOk Try.prog 19 ⟨Try.t18.desc, 1, 8, Try.t19.zero⟩ := ⟨Try.underlying19, Try.t19, info_of_run Try.typeInfo19, rfl, rfl, rfl⟩
theorem ty20 : TyOk Try.prog 20 ⟨Try.t20.desc, 1, 16, Try.t20.zero⟩ := ⟨Try.underlying20, Try.t20, info_of_run Try.typeInfo20, rfl, rfl, rfl⟩
theorem ty21 : TyOk Try.prog 21 ⟨Try.t21.desc, 1, 4, Try.t21.zero⟩ := ⟨Try.underlying21, Try.t21, info_of_run Try.typeInfo21, rfl, rfl, rfl⟩
theorem ty22 : TyOk Try.prog 22 ⟨Try.t22.desc, 1, 24, Try.t22.zero⟩ := ⟨Try.underlying22, Try.t22, info_of_run Try.typeInfo22, rfl, rfl, rfl⟩
theorem ty23 : TyOk Try.prog 23 ⟨Try.t23.desc, 1, 8, Try.t23.zero⟩ := ⟨Try.underlying23, Try.t23, info_of_run Try.typeInfo23, rfl, rfl, rfl⟩
theorem ty24 : TyOk Try.prog 24 ⟨Try.t24.desc, 1, 8, Try.t24.zero⟩ := ⟨Try.underlying24, Try.t24, info_of_run Try.typeInfo24, rfl, rfl, rfl⟩
theorem ty25 : TyOk Try.prog 25 ⟨Try.t25.desc, 1, 8, Try.t25.zero⟩ := ⟨Try.underlying25, Try.t25, info_of_run Try.typeInfo25, rfl, rfl, rfl⟩
theorem ty26 : TyOk Try.prog 26 ⟨Try.t26.desc, 1, 24, Try.t26.zero⟩ := ⟨Try.underlying26, Try.t26, info_of_run Try.typeInfo26, rfl, rfl, rfl⟩
theorem ty27 : TyOk Try.prog 27 ⟨Try.t27.desc, 7, 72, Try.t27.zero⟩ := ⟨Try.underlying27, Try.t27, info_of_run Try.typeInfo27, rfl, rfl, rfl⟩
theorem ty28 : TyOk Try.prog 28 ⟨Try.t27.desc, 7, 72, Try.t28.zero⟩ := ⟨Try.underlying28, Try.t28, info_of_run Try.typeInfo28, rfl, rfl, rfl⟩
theorem ty29 : TyOk Try.prog 29 ⟨Try.t29.desc, 1, 8, Try.t29.zero⟩ := ⟨Try.underlying29, Try.t29, info_of_run Try.typeInfo29, rfl, rfl, rfl⟩
theorem ty30 : TyOk Try.prog 30 ⟨Try.t30.desc, 1, 8, Try.t30.zero⟩ := ⟨Try.underlying30, Try.t30, info_of_run Try.typeInfo30, rfl, rfl, rfl⟩
theorem ty31 : TyOk Try.prog 31 ⟨Try.t3.desc, 1, 8, Try.t31.zero⟩ := ⟨Try.underlying31, Try.t31, info_of_run Try.typeInfo31, rfl, rfl, rfl⟩
theorem ty32 : TyOk Try.prog 32 ⟨Try.t32.desc, 1, 0, Try.t32.zero⟩ := ⟨Try.underlying32, Try.t32, info_of_run Try.typeInfo32, rfl, rfl, rfl⟩
theorem ty33 : TyOk Try.prog 33 ⟨Try.t33.desc, 1, 8, Try.t33.zero⟩ := ⟨Try.underlying33, Try.t33, info_of_run Try.typeInfo33, rfl, rfl, rfl⟩
theorem ty34 : TyOk Try.prog 34 ⟨Try.t34.desc, 1, 8, Try.t34.zero⟩ := ⟨Try.underlying34, Try.t34, info_of_run Try.typeInfo34, rfl, rfl, rfl⟩
theorem ty35 : TyOk Try.prog 35 ⟨Try.t35.desc, 1, 8, Try.t35.zero⟩ := ⟨Try.underlying35, Try.t35, info_of_run Try.typeInfo35, rfl, rfl, rfl⟩
theorem ty36 : TyOk Try.prog 36 ⟨Try.t36.desc, 1, 8, Try.t36.zero⟩ := ⟨Try.underlying36, Try.t36, info_of_run Try.typeInfo36, rfl, rfl, rfl⟩
theorem ty37 : TyOk Try.prog 37 ⟨Try.t37.desc, 1, 8, Try.t37.zero⟩ := ⟨Try.underlying37, Try.t37, info_of_run Try.typeInfo37, rfl, rfl, rfl⟩
theorem ty38 : TyOk Try.prog 38 ⟨Try.t38.desc, 1, 8, Try.t38.zero⟩ := ⟨Try.underlying38, Try.t38, info_of_run Try.typeInfo38, rfl, rfl, rfl⟩
theorem ty39 : TyOk Try.prog 39 ⟨Try.t39.desc, 1, 8, Try.t39.zero⟩ := ⟨Try.underlying39, Try.t39, info_of_run Try.typeInfo39, rfl, rfl, rfl⟩
theorem ty40 : TyOk Try.prog 40 ⟨Try.t40.desc, 1, 8, Try.t40.zero⟩ := ⟨Try.underlying40, Try.t40, info_of_run Try.typeInfo40, rfl, rfl, rfl⟩
theorem ty41 : TyOk Try.prog 41 ⟨Try.t41.desc, 1, 8, Try.t41.zero⟩ := ⟨Try.underlying41, Try.t41, info_of_run Try.typeInfo41, rfl, rfl, rfl⟩
theorem ty42 : TyOk Try.prog 42 ⟨Try.t3.desc, 1, 8, Try.t42.zero⟩ := ⟨Try.underlying42, Try.t42, info_of_run Try.typeInfo42, rfl, rfl, rfl⟩
theorem ty43 : TyOk Try.prog 43 ⟨Try.t3.desc, 1, 8, Try.t43.zero⟩ := ⟨Try.underlying43, Try.t43, info_of_run Try.typeInfo43, rfl, rfl, rfl⟩
theorem ty44 : TyOk Try.prog 44 ⟨Try.t44.desc, 12, 96, Try.t44.zero⟩ := ⟨Try.underlying44, Try.t44, info_of_run Try.typeInfo44, rfl, rfl, rfl⟩
theorem ty45 : TyOk Try.prog 45 ⟨Try.t44.desc, 12, 96, Try.t45.zero⟩ := ⟨Try.underlying45, Try.t45, info_of_run Try.typeInfo45, rfl, rfl, rfl⟩
theorem ty46 : TyOk Try.prog 46 ⟨Try.t46.desc, 3, 24, Try.t46.zero⟩ := ⟨Try.underlying46, Try.t46, info_of_run Try.typeInfo46, rfl, rfl, rfl⟩
theorem ty47 : TyOk Try.prog 47 ⟨Try.t46.desc, 3, 24, Try.t47.zero⟩ := ⟨Try.underlying47, Try.t47, info_of_run Try.typeInfo47, rfl, rfl, rfl⟩
theorem ty48 : TyOk Try.prog 48 ⟨Try.t48.desc, 6, 48, Try.t48.zero⟩ := ⟨Try.underlying48, Try.t48, info_of_run Try.typeInfo48, rfl, rfl, rfl⟩
theorem ty49 : TyOk Try.prog 49 ⟨Try.t48.desc, 6, 48, Try.t49.zero⟩ := ⟨Try.underlying49, Try.t49, info_of_run Try.typeInfo49, rfl, rfl, rfl⟩
theorem ty50 : TyOk Try.prog 50 ⟨Try.t50.desc, 24, 192, Try.t50.zero⟩ := ⟨Try.underlying50, Try.t50, info_of_run Try.typeInfo50, rfl, rfl, rfl⟩
theorem ty51 : TyOk Try.prog 51 ⟨Try.t50.desc, 24, 192, Try.t51.zero⟩ := ⟨Try.underlying51, Try.t51, info_of_run Try.typeInfo51, rfl, rfl, rfl⟩
theorem ty52 : TyOk Try.prog 52 ⟨Try.t52.desc, 48, 384, Try.t52.zero⟩ := ⟨Try.underlying52, Try.t52, info_of_run Try.typeInfo52, rfl, rfl, rfl⟩
theorem ty53 : TyOk Try.prog 53 ⟨Try.t53.desc, 1, 24, Try.t53.zero⟩ := ⟨Try.underlying53, Try.t53, info_of_run Try.typeInfo53, rfl, rfl, rfl⟩
theorem ty54 : TyOk Try.prog 54 ⟨Try.t54.desc, 1, 0, Try.t54.zero⟩ := ⟨Try.underlying54, Try.t54, info_of_run Try.typeInfo54, rfl, rfl, rfl⟩
theorem ty55 : TyOk Try.prog 55 ⟨Try.t55.desc, 1, 8, Try.t55.zero⟩ := ⟨Try.underlying55, Try.t55, info_of_run Try.typeInfo55, rfl, rfl, rfl⟩
theorem ty56 : TyOk Try.prog 56 ⟨Try.t56.desc, 1, 8, Try.t56.zero⟩ := ⟨Try.underlying56, Try.t56, info_of_run Try.typeInfo56, rfl, rfl, rfl⟩
theorem ty57 : TyOk Try.prog 57 ⟨Try.t57.desc, 1, 0, Try.t57.zero⟩ := ⟨Try.underlying57, Try.t57, info_of_run Try.typeInfo57, rfl, rfl, rfl⟩
theorem ty58 : TyOk Try.prog 58 ⟨Try.t58.desc, 1, 8, Try.t58.zero⟩ := ⟨Try.underlying58, Try.t58, info_of_run Try.typeInfo58, rfl, rfl, rfl⟩
theorem ty59 : TyOk Try.prog 59 ⟨Try.t59.desc, 1, 8, Try.t59.zero⟩ := ⟨Try.underlying59, Try.t59, info_of_run Try.typeInfo59, rfl, rfl, rfl⟩
theorem ty60 : TyOk Try.prog 60 ⟨Try.t60.desc, 1, 8, Try.t60.zero⟩ := ⟨Try.underlying60, Try.t60, info_of_run Try.typeInfo60, rfl, rfl, rfl⟩
theorem ty61 : TyOk Try.prog 61 ⟨Try.t61.desc, 1, 8, Try.t61.zero⟩ := ⟨Try.underlying61, Try.t61, info_of_run Try.typeInfo61, rfl, rfl, rfl⟩
theorem ty62 : TyOk Try.prog 62 ⟨Try.t62.desc, 1, 8, Try.t62.zero⟩ := ⟨Try.underlying62, Try.t62, info_of_run Try.typeInfo62, rfl, rfl, rfl⟩
theorem ty63 : TyOk Try.prog 63 ⟨Try.t3.desc, 1, 8, Try.t63.zero⟩ := ⟨Try.underlying63, Try.t63, info_of_run Try.typeInfo63, rfl, rfl, rfl⟩
theorem ty64 : TyOk Try.prog 64 ⟨Try.t64.desc, 1, 8, Try.t64.zero⟩ := ⟨Try.underlying64, Try.t64, info_of_run Try.typeInfo64, rfl, rfl, rfl⟩
theorem ty65 : TyOk Try.prog 65 ⟨Try.t65.desc, 1, 8, Try.t65.zero⟩ := ⟨Try.underlying65, Try.t65, info_of_run Try.typeInfo65, rfl, rfl, rfl⟩
theorem ty66 : TyOk Try.prog 66 ⟨Try.t66.desc, 1, 8, Try.t66.zero⟩ := ⟨Try.underlying66, Try.t66, info_of_run Try.typeInfo66, rfl, rfl, rfl⟩
theorem ty67 : TyOk Try.prog 67 ⟨Try.t67.desc, 1, 8, Try.t67.zero⟩ := ⟨Try.underlying67, Try.t67, info_of_run Try.typeInfo67, rfl, rfl, rfl⟩
theorem ty68 : TyOk Try.prog 68 ⟨Try.t68.desc, 1, 8, Try.t68.zero⟩ := ⟨Try.underlying68, Try.t68, info_of_run Try.typeInfo68, rfl, rfl, rfl⟩
theorem ty69 : TyOk Try.prog 69 ⟨Try.t69.desc, 1, 24, Try.t69.zero⟩ := ⟨Try.underlying69, Try.t69, info_of_run Try.typeInfo69, rfl, rfl, rfl⟩
theorem ty70 : TyOk Try.prog 70 ⟨Try.t70.desc, 1, 0, Try.t70.zero⟩ := ⟨Try.underlying70, Try.t70, info_of_run Try.typeInfo70, rfl, rfl, rfl⟩
theorem ty71 : TyOk Try.prog 71 ⟨Try.t71.desc, 1, 8, Try.t71.zero⟩ := ⟨Try.underlying71, Try.t71, info_of_run Try.typeInfo71, rfl, rfl, rfl⟩
theorem ty72 : TyOk Try.prog 72 ⟨Try.t72.desc, 1, 8, Try.t72.zero⟩ := ⟨Try.underlying72, Try.t72, info_of_run Try.typeInfo72, rfl, rfl, rfl⟩
theorem ty73 : TyOk Try.prog 73 ⟨Try.t73.desc, 1, 8, Try.t73.zero⟩ := ⟨Try.underlying73, Try.t73, info_of_run Try.typeInfo73, rfl, rfl, rfl⟩
theorem ty74 : TyOk Try.prog 74 ⟨Try.t74.desc, 1, 0, Try.t74.zero⟩ := ⟨Try.underlying74, Try.t74, info_of_run Try.typeInfo74, rfl, rfl, rfl⟩
theorem ty75 : TyOk Try.prog 75 ⟨Try.t75.desc, 1, 8, Try.t75.zero⟩ := ⟨Try.underlying75, Try.t75, info_of_run Try.typeInfo75, rfl, rfl, rfl⟩
theorem ty76 : TyOk Try.prog 76 ⟨Try.t76.desc, 1, 8, Try.t76.zero⟩ := ⟨Try.underlying76, Try.t76, info_of_run Try.typeInfo76, rfl, rfl, rfl⟩
theorem ty77 : TyOk Try.prog 77 ⟨Try.t77.desc, 1, 8, Try.t77.zero⟩ := ⟨Try.underlying77, Try.t77, info_of_run Try.typeInfo77, rfl, rfl, rfl⟩
theorem ty78 : TyOk Try.prog 78 ⟨Try.t78.desc, 1, 8, Try.t78.zero⟩ := ⟨Try.underlying78, Try.t78, info_of_run Try.typeInfo78, rfl, rfl, rfl⟩
theorem ty79 : TyOk Try.prog 79 ⟨Try.t79.desc, 1, 4, Try.t79.zero⟩ := ⟨Try.underlying79, Try.t79, info_of_run Try.typeInfo79, rfl, rfl, rfl⟩
theorem ty80 : TyOk Try.prog 80 ⟨Try.t80.desc, 1, 8, Try.t80.zero⟩ := ⟨Try.underlying80, Try.t80, info_of_run Try.typeInfo80, rfl, rfl, rfl⟩
theorem ty81 : TyOk Try.prog 81 ⟨Try.t81.desc, 1, 8, Try.t81.zero⟩ := ⟨Try.underlying81, Try.t81, info_of_run Try.typeInfo81, rfl, rfl, rfl⟩
theorem ty82 : TyOk Try.prog 82 ⟨Try.t82.desc, 1, 24, Try.t82.zero⟩ := ⟨Try.underlying82, Try.t82, info_of_run Try.typeInfo82, rfl, rfl, rfl⟩
theorem ty83 : TyOk Try.prog 83 ⟨Try.t83.desc, 1, 8, Try.t83.zero⟩ := ⟨Try.underlying83, Try.t83, info_of_run Try.typeInfo83, rfl, rfl, rfl⟩
theorem ty84 : TyOk Try.prog 84 ⟨Try.t84.desc, 1, 8, Try.t84.zero⟩ := ⟨Try.underlying84, Try.t84, info_of_run Try.typeInfo84, rfl, rfl, rfl⟩
theorem ty85 : TyOk Try.prog 85 ⟨Try.t85.desc, 1, 24, Try.t85.zero⟩ := ⟨Try.underlying85, Try.t85, info_of_run Try.typeInfo85, rfl, rfl, rfl⟩
theorem ty86 : TyOk Try.prog 86 ⟨Try.t86.desc, 5, 72, Try.t86.zero⟩ := ⟨Try.underlying86, Try.t86, info_of_run Try.typeInfo86, rfl, rfl, rfl⟩
theorem ty87 : TyOk Try.prog 87 ⟨Try.t86.desc, 5, 72, Try.t87.zero⟩ := ⟨Try.underlying87, Try.t87, info_of_run Try.typeInfo87, rfl, rfl, rfl⟩
theorem ty88 : TyOk Try.prog 88 ⟨Try.t88.desc, 1, 0, Try.t88.zero⟩ := ⟨Try.underlying88, Try.t88, info_of_run Try.typeInfo88, rfl, rfl, rfl⟩
theorem ty89 : TyOk Try.prog 89 ⟨Try.t89.desc, 1, 8, Try.t89.zero⟩ := ⟨Try.underlying89, Try.t89, info_of_run Try.typeInfo89, rfl, rfl, rfl⟩
theorem ty90 : TyOk Try.prog 90 ⟨Try.t90.desc, 1, 8, Try.t90.zero⟩ := ⟨Try.underlying90, Try.t90, info_of_run Try.typeInfo90, rfl, rfl, rfl⟩
theorem ty91 : TyOk Try.prog 91 ⟨Try.t91.desc, 1, 8, Try.t91.zero⟩ := ⟨Try.underlying91, Try.t91, info_of_run Try.typeInfo91, rfl, rfl, rfl⟩
theorem ty92 : TyOk Try.prog 92 ⟨Try.t92.desc, 1, 8, Try.t92.zero⟩ := ⟨Try.underlying92, Try.t92, info_of_run Try.typeInfo92, rfl, rfl, rfl⟩
theorem ty93 : TyOk Try.prog 93 ⟨Try.t93.desc, 1, 8, Try.t93.zero⟩ := ⟨Try.underlying93, Try.t93, info_of_run Try.typeInfo93, rfl, rfl, rfl⟩
theorem ty94 : TyOk Try.prog 94 ⟨Try.t94.desc, 1, 8, Try.t94.zero⟩ := ⟨Try.underlying94, Try.t94, info_of_run Try.typeInfo94, rfl, rfl, rfl⟩
theorem ty95 : TyOk Try.prog 95 ⟨Try.t95.desc, 1, 8, Try.t95.zero⟩ := ⟨Try.underlying95, Try.t95, info_of_run Try.typeInfo95, rfl, rfl, rfl⟩
theorem ty96 : TyOk Try.prog 96 ⟨Try.t96.desc, 1, 8, Try.t96.zero⟩ := ⟨Try.underlying96, Try.t96, info_of_run Try.typeInfo96, rfl, rfl, rfl⟩
theorem ty97 : TyOk Try.prog 97 ⟨Try.t97.desc, 1, 8, Try.t97.zero⟩ := ⟨Try.underlying97, Try.t97, info_of_run Try.typeInfo97, rfl, rfl, rfl⟩
theorem ty98 : TyOk Try.prog 98 ⟨Try.t98.desc, 1, 8, Try.t98.zero⟩ := ⟨Try.underlying98, Try.t98, info_of_run Try.typeInfo98, rfl, rfl, rfl⟩
theorem ty99 : TyOk Try.prog 99 ⟨Try.t3.desc, 1, 8, Try.t99.zero⟩ := ⟨Try.underlying99, Try.t99, info_of_run Try.typeInfo99, rfl, rfl, rfl⟩
theorem ty100 : TyOk Try.prog 100 ⟨Try.t100.desc, 1, 8, Try.t100.zero⟩ := ⟨Try.underlying100, Try.t100, info_of_run Try.typeInfo100, rfl, rfl, rfl⟩
theorem ty101 : TyOk Try.prog 101 ⟨Try.t101.desc, 7, 56, Try.t101.zero⟩ := ⟨Try.underlying101, Try.t101, info_of_run Try.typeInfo101, rfl, rfl, rfl⟩
theorem ty102 : TyOk Try.prog 102 ⟨Try.t101.desc, 7, 56, Try.t102.zero⟩ := ⟨Try.underlying102, Try.t102, info_of_run Try.typeInfo102, rfl, rfl, rfl⟩
theorem ty103 : TyOk Try.prog 103 ⟨Try.t103.desc, 1, 8, Try.t103.zero⟩ := ⟨Try.underlying103, Try.t103, info_of_run Try.typeInfo103, rfl, rfl, rfl⟩
theorem ty104 : TyOk Try.prog 104 ⟨Try.t104.desc, 1, 8, Try.t104.zero⟩ := ⟨Try.underlying104, Try.t104, info_of_run Try.typeInfo104, rfl, rfl, rfl⟩
theorem ty105 : TyOk Try.prog 105 ⟨Try.t104.desc, 1, 8, Try.t105.zero⟩ := ⟨Try.underlying105, Try.t105, info_of_run Try.typeInfo105, rfl, rfl, rfl⟩
theorem ty106 : TyOk Try.prog 106 ⟨Try.t106.desc, 1, 8, Try.t106.zero⟩ := ⟨Try.underlying106, Try.t106, info_of_run Try.typeInfo106, rfl, rfl, rfl⟩
theorem ty107 : TyOk Try.prog 107 ⟨Try.t107.desc, 1, 8, Try.t107.zero⟩ := ⟨Try.underlying107, Try.t107, info_of_run Try.typeInfo107, rfl, rfl, rfl⟩
theorem ty108 : TyOk Try.prog 108 ⟨Try.t108.desc, 1, 8, Try.t108.zero⟩ := ⟨Try.underlying108, Try.t108, info_of_run Try.typeInfo108, rfl, rfl, rfl⟩
theorem ty109 : TyOk Try.prog 109 ⟨Try.t109.desc, 1, 8, Try.t109.zero⟩ := ⟨Try.underlying109, Try.t109, info_of_run Try.typeInfo109, rfl, rfl, rfl⟩
theorem ty110 : TyOk Try.prog 110 ⟨Try.t110.desc, 1, 8, Try.t110.zero⟩ := ⟨Try.underlying110, Try.t110, info_of_run Try.typeInfo110, rfl, rfl, rfl⟩
theorem ty111 : TyOk Try.prog 111 ⟨Try.t111.desc, 1, 8, Try.t111.zero⟩ := ⟨Try.underlying111, Try.t111, info_of_run Try.typeInfo111, rfl, rfl, rfl⟩
theorem ty112 : TyOk Try.prog 112 ⟨Try.t112.desc, 1, 8, Try.t112.zero⟩ := ⟨Try.underlying112, Try.t112, info_of_run Try.typeInfo112, rfl, rfl, rfl⟩
theorem ty113 : TyOk Try.prog 113 ⟨Try.t113.desc, 1, 8, Try.t113.zero⟩ := ⟨Try.underlying113, Try.t113, info_of_run Try.typeInfo113, rfl, rfl, rfl⟩
theorem ty114 : TyOk Try.prog 114 ⟨Try.t114.desc, 1, 8, Try.t114.zero⟩ := ⟨Try.underlying114, Try.t114, info_of_run Try.typeInfo114, rfl, rfl, rfl⟩
theorem ty115 : TyOk Try.prog 115 ⟨Try.t115.desc, 1, 8, Try.t115.zero⟩ := ⟨Try.underlying115, Try.t115, info_of_run Try.typeInfo115, rfl, rfl, rfl⟩
theorem ty116 : TyOk Try.prog 116 ⟨Try.t116.desc, 1, 8, Try.t116.zero⟩ := ⟨Try.underlying116, Try.t116, info_of_run Try.typeInfo116, rfl, rfl, rfl⟩
theorem ty117 : TyOk Try.prog 117 ⟨Try.t117.desc, 1, 8, Try.t117.zero⟩ := ⟨Try.underlying117, Try.t117, info_of_run Try.typeInfo117, rfl, rfl, rfl⟩
theorem ty118 : TyOk Try.prog 118 ⟨Try.t118.desc, 1, 8, Try.t118.zero⟩ := ⟨Try.underlying118, Try.t118, info_of_run Try.typeInfo118, rfl, rfl, rfl⟩
theorem ty119 : TyOk Try.prog 119 ⟨Try.t119.desc, 1, 8, Try.t119.zero⟩ := ⟨Try.underlying119, Try.t119, info_of_run Try.typeInfo119, rfl, rfl, rfl⟩
theorem ty120 : TyOk Try.prog 120 ⟨Try.t120.desc, 1, 8, Try.t120.zero⟩ := ⟨Try.underlying120, Try.t120, info_of_run Try.typeInfo120, rfl, rfl, rfl⟩
theorem ty121 : TyOk Try.prog 121 ⟨Try.t121.desc, 1, 8, Try.t121.zero⟩ := ⟨Try.underlying121, Try.t121, info_of_run Try.typeInfo121, rfl, rfl, rfl⟩
theorem ty122 : TyOk Try.prog 122 ⟨Try.t122.desc, 1, 8, Try.t122.zero⟩ := ⟨Try.underlying122, Try.t122, info_of_run Try.typeInfo122, rfl, rfl, rfl⟩
theorem ty123 : TyOk Try.prog 123 ⟨Try.t123.desc, 1, 8, Try.t123.zero⟩ := ⟨Try.underlying123, Try.t123, info_of_run Try.typeInfo123, rfl, rfl, rfl⟩
theorem ty124 : TyOk Try.prog 124 ⟨Try.t124.desc, 1, 8, Try.t124.zero⟩ := ⟨Try.underlying124, Try.t124, info_of_run Try.typeInfo124, rfl, rfl, rfl⟩
theorem ty125 : TyOk Try.prog 125 ⟨Try.t125.desc, 1, 8, Try.t125.zero⟩ := ⟨Try.underlying125, Try.t125, info_of_run Try.typeInfo125, rfl, rfl, rfl⟩
theorem ty126 : TyOk Try.prog 126 ⟨Try.t125.desc, 1, 8, Try.t126.zero⟩ := ⟨Try.underlying126, Try.t126, info_of_run Try.typeInfo126, rfl, rfl, rfl⟩
theorem ty127 : TyOk Try.prog 127 ⟨Try.t127.desc, 1, 8, Try.t127.zero⟩ := ⟨Try.underlying127, Try.t127, info_of_run Try.typeInfo127, rfl, rfl, rfl⟩
theorem ty128 : TyOk Try.prog 128 ⟨Try.t128.desc, 1, 8, Try.t128.zero⟩ := ⟨Try.underlying128, Try.t128, info_of_run Try.typeInfo128, rfl, rfl, rfl⟩
theorem ty129 : TyOk Try.prog 129 ⟨Try.t129.desc, 2, 32, Try.t129.zero⟩ := ⟨Try.underlying129, Try.t129, info_of_run Try.typeInfo129, rfl, rfl, rfl⟩
theorem ty130 : TyOk Try.prog 130 ⟨Try.t129.desc, 2, 32, Try.t130.zero⟩ := ⟨Try.underlying130, Try.t130, info_of_run Try.typeInfo130, rfl, rfl, rfl⟩
theorem ty131 : TyOk Try.prog 131 ⟨Try.t131.desc, 1, 8, Try.t131.zero⟩ := ⟨Try.underlying131, Try.t131, info_of_run Try.typeInfo131, rfl, rfl, rfl⟩
theorem ty132 : TyOk Try.prog 132 ⟨Try.t132.desc, 1, 8, Try.t132.zero⟩ := ⟨Try.underlying132, Try.t132, info_of_run Try.typeInfo132, rfl, rfl, rfl⟩
theorem ty133 : TyOk Try.prog 133 ⟨Try.t133.desc, 1, 8, Try.t133.zero⟩ := ⟨Try.underlying133, Try.t133, info_of_run Try.typeInfo133, rfl, rfl, rfl⟩
theorem ty134 : TyOk Try.prog 134 ⟨Try.t134.desc, 1, 8, Try.t134.zero⟩ := ⟨Try.underlying134, Try.t134, info_of_run Try.typeInfo134, rfl, rfl, rfl⟩
theorem ty135 : TyOk Try.prog 135 ⟨Try.t135.desc, 1, 8, Try.t135.zero⟩ := ⟨Try.underlying135, Try.t135, info_of_run Try.typeInfo135, rfl, rfl, rfl⟩
theorem ty136 : TyOk Try.prog 136 ⟨Try.t136.desc, 32, 256, Try.t136.zero⟩ := ⟨Try.underlying136, Try.t136, info_of_run Try.typeInfo136, rfl, rfl, rfl⟩
theorem ty137 : TyOk Try.prog 137 ⟨Try.t137.desc, 1, 0, Try.t137.zero⟩ := ⟨Try.underlying137, Try.t137, info_of_run Try.typeInfo137, rfl, rfl, rfl⟩
theorem ty138 : TyOk Try.prog 138 ⟨Try.t138.desc, 1, 8, Try.t138.zero⟩ := ⟨Try.underlying138, Try.t138, info_of_run Try.typeInfo138, rfl, rfl, rfl⟩
theorem ty139 : TyOk Try.prog 139 ⟨Try.t139.desc, 1, 8, Try.t139.zero⟩ := ⟨Try.underlying139, Try.t139, info_of_run Try.typeInfo139, rfl, rfl, rfl⟩
theorem ty140 : TyOk Try.prog 140 ⟨Try.t140.desc, 1, 8, Try.t140.zero⟩ := ⟨Try.underlying140, Try.t140, info_of_run Try.typeInfo140, rfl, rfl, rfl⟩
theorem ty141 : TyOk Try.prog 141 ⟨Try.t141.desc, 1, 8, Try.t141.zero⟩ := ⟨Try.underlying141, Try.t141, info_of_run Try.typeInfo141, rfl, rfl, rfl⟩
theorem ty142 : TyOk Try.prog 142 ⟨Try.t142.desc, 1, 8, Try.t142.zero⟩ := ⟨Try.underlying142, Try.t142, info_of_run Try.typeInfo142, rfl, rfl, rfl⟩
theorem ty143 : TyOk Try.prog 143 ⟨Try.t143.desc, 1, 8, Try.t143.zero⟩ := ⟨Try.underlying143, Try.t143, info_of_run Try.typeInfo143, rfl, rfl, rfl⟩
theorem ty144 : TyOk Try.prog 144 ⟨Try.t144.desc, 1, 8, Try.t144.zero⟩ := ⟨Try.underlying144, Try.t144, info_of_run Try.typeInfo144, rfl, rfl, rfl⟩
theorem ty145 : TyOk Try.prog 145 ⟨Try.t145.desc, 1, 8, Try.t145.zero⟩ := ⟨Try.underlying145, Try.t145, info_of_run Try.typeInfo145, rfl, rfl, rfl⟩
theorem ty146 : TyOk Try.prog 146 ⟨Try.t146.desc, 1, 8, Try.t146.zero⟩ := ⟨Try.underlying146, Try.t146, info_of_run Try.typeInfo146, rfl, rfl, rfl⟩
theorem ty147 : TyOk Try.prog 147 ⟨Try.t147.desc, 1, 8, Try.t147.zero⟩ := ⟨Try.underlying147, Try.t147, info_of_run Try.typeInfo147, rfl, rfl, rfl⟩
theorem ty148 : TyOk Try.prog 148 ⟨Try.t148.desc, 1, 8, Try.t148.zero⟩ := ⟨Try.underlying148, Try.t148, info_of_run Try.typeInfo148, rfl, rfl, rfl⟩
theorem ty149 : TyOk Try.prog 149 ⟨Try.t149.desc, 1, 8, Try.t149.zero⟩ := ⟨Try.underlying149, Try.t149, info_of_run Try.typeInfo149, rfl, rfl, rfl⟩
theorem ty150 : TyOk Try.prog 150 ⟨Try.t150.desc, 1, 8, Try.t150.zero⟩ := ⟨Try.underlying150, Try.t150, info_of_run Try.typeInfo150, rfl, rfl, rfl⟩
theorem ty151 : TyOk Try.prog 151 ⟨Try.t151.desc, 1, 8, Try.t151.zero⟩ := ⟨Try.underlying151, Try.t151, info_of_run Try.typeInfo151, rfl, rfl, rfl⟩
theorem ty152 : TyOk Try.prog 152 ⟨Try.t152.desc, 1, 8, Try.t152.zero⟩ := ⟨Try.underlying152, Try.t152, info_of_run Try.typeInfo152, rfl, rfl, rfl⟩
theorem ty153 : TyOk Try.prog 153 ⟨Try.t153.desc, 1, 8, Try.t153.zero⟩ := ⟨Try.underlying153, Try.t153, info_of_run Try.typeInfo153, rfl, rfl, rfl⟩
theorem ty154 : TyOk Try.prog 154 ⟨Try.t154.desc, 1, 8, Try.t154.zero⟩ := ⟨Try.underlying154, Try.t154, info_of_run Try.typeInfo154, rfl, rfl, rfl⟩
theorem ty155 : TyOk Try.prog 155 ⟨Try.t155.desc, 1, 8, Try.t155.zero⟩ := ⟨Try.underlying155, Try.t155, info_of_run Try.typeInfo155, rfl, rfl, rfl⟩
theorem ty156 : TyOk Try.prog 156 ⟨Try.t101.desc, 7, 56, Try.t156.zero⟩ := ⟨Try.underlying156, Try.t156, info_of_run Try.typeInfo156, rfl, rfl, rfl⟩
theorem ty157 : TyOk Try.prog 157 ⟨Try.t157.desc, 1, 8, Try.t157.zero⟩ := ⟨Try.underlying157, Try.t157, info_of_run Try.typeInfo157, rfl, rfl, rfl⟩
theorem ty158 : TyOk Try.prog 158 ⟨Try.t158.desc, 1, 8, Try.t158.zero⟩ := ⟨Try.underlying158, Try.t158, info_of_run Try.typeInfo158, rfl, rfl, rfl⟩
theorem ty159 : TyOk Try.prog 159 ⟨Try.t159.desc, 1, 8, Try.t159.zero⟩ := ⟨Try.underlying159, Try.t159, info_of_run Try.typeInfo159, rfl, rfl, rfl⟩
theorem ty160 : TyOk Try.prog 160 ⟨Try.t160.desc, 1, 8, Try.t160.zero⟩ := ⟨Try.underlying160, Try.t160, info_of_run Try.typeInfo160, rfl, rfl, rfl⟩
theorem ty161 : TyOk Try.prog 161 ⟨Try.t161.desc, 1, 8, Try.t161.zero⟩ := ⟨Try.underlying161, Try.t161, info_of_run Try.typeInfo161, rfl, rfl, rfl⟩
theorem ty162 : TyOk Try.prog 162 ⟨Try.t162.desc, 1, 8, Try.t162.zero⟩ := ⟨Try.underlying162, Try.t162, info_of_run Try.typeInfo162, rfl, rfl, rfl⟩
theorem ty163 : TyOk Try.prog 163 ⟨Try.t163.desc, 1, 24, Try.t163.zero⟩ := ⟨Try.underlying163, Try.t163, info_of_run Try.typeInfo163, rfl, rfl, rfl⟩
theorem ty164 : TyOk Try.prog 164 ⟨Try.t164.desc, 1, 8, Try.t164.zero⟩ := ⟨Try.underlying164, Try.t164, info_of_run Try.typeInfo164, rfl, rfl, rfl⟩
theorem ty165 : TyOk Try.prog 165 ⟨Try.t165.desc, 1, 8, Try.t165.zero⟩ := ⟨Try.underlying165, Try.t165, info_of_run Try.typeInfo165, rfl, rfl, rfl⟩
theorem ty166 : TyOk Try.prog 166 ⟨Try.t166.desc, 1, 24, Try.t166.zero⟩ := ⟨Try.underlying166, Try.t166, info_of_run Try.typeInfo166, rfl, rfl, rfl⟩
theorem ty167 : TyOk Try.prog 167 ⟨Try.t167.desc, 1, 24, Try.t167.zero⟩ := ⟨Try.underlying167, Try.t167, info_of_run Try.typeInfo167, rfl, rfl, rfl⟩
theorem ty168 : TyOk Try.prog 168 ⟨Try.t168.desc, 1, 8, Try.t168.zero⟩ := ⟨Try.underlying168, Try.t168, info_of_run Try.typeInfo168, rfl, rfl, rfl⟩
theorem ty169 : TyOk Try.prog 169 ⟨Try.t169.desc, 1, 8, Try.t169.zero⟩ := ⟨Try.underlying169, Try.t169, info_of_run Try.typeInfo169, rfl, rfl, rfl⟩
theorem ty170 : TyOk Try.prog 170 ⟨Try.t170.desc, 1, 8, Try.t170.zero⟩ := ⟨Try.underlying170, Try.t170, info_of_run Try.typeInfo170, rfl, rfl, rfl⟩
theorem ty171 : TyOk Try.prog 171 ⟨Try.t171.desc, 1, 8, Try.t171.zero⟩ := ⟨Try.underlying171, Try.t171, info_of_run Try.typeInfo171, rfl, rfl, rfl⟩
theorem ty172 : TyOk Try.prog 172 ⟨Try.t172.desc, 1, 8, Try.t172.zero⟩ := ⟨Try.underlying172, Try.t172, info_of_run Try.typeInfo172, rfl, rfl, rfl⟩
theorem ty173 : TyOk Try.prog 173 ⟨Try.t173.desc, 1, 24, Try.t173.zero⟩ := ⟨Try.underlying173, Try.t173, info_of_run Try.typeInfo173, rfl, rfl, rfl⟩
theorem ty174 : TyOk Try.prog 174 ⟨Try.t174.desc, 1, 8, Try.t174.zero⟩ := ⟨Try.underlying174, Try.t174, info_of_run Try.typeInfo174, rfl, rfl, rfl⟩
theorem ty175 : TyOk Try.prog 175 ⟨Try.t175.desc, 2, 32, Try.t175.zero⟩ := ⟨Try.underlying175, Try.t175, info_of_run Try.typeInfo175, rfl, rfl, rfl⟩
theorem ty176 : TyOk Try.prog 176 ⟨Try.t175.desc, 2, 32, Try.t176.zero⟩ := ⟨Try.underlying176, Try.t176, info_of_run Try.typeInfo176, rfl, rfl, rfl⟩
theorem ty177 : TyOk Try.prog 177 ⟨Try.t177.desc, 1, 8, Try.t177.zero⟩ := ⟨Try.underlying177, Try.t177, info_of_run Try.typeInfo177, rfl, rfl, rfl⟩
theorem ty178 : TyOk Try.prog 178 ⟨Try.t178.desc, 1, 8, Try.t178.zero⟩ := ⟨Try.underlying178, Try.t178, info_of_run Try.typeInfo178, rfl, rfl, rfl⟩
theorem ty179 : TyOk Try.prog 179 ⟨Try.t179.desc, 1, 8, Try.t179.zero⟩ := ⟨Try.underlying179, Try.t179, info_of_run Try.typeInfo179, rfl, rfl, rfl⟩
theorem ty180 : TyOk Try.prog 180 ⟨Try.t180.desc, 1, 8, Try.t180.zero⟩ := ⟨Try.underlying180, Try.t180, info_of_run Try.typeInfo180, rfl, rfl, rfl⟩
theorem ty181 : TyOk Try.prog 181 ⟨Try.t181.desc, 1, 8, Try.t181.zero⟩ := ⟨Try.underlying181, Try.t181, info_of_run Try.typeInfo181, rfl, rfl, rfl⟩
theorem ty182 : TyOk Try.prog 182 ⟨Try.t182.desc, 1, 8, Try.t182.zero⟩ := ⟨Try.underlying182, Try.t182, info_of_run Try.typeInfo182, rfl, rfl, rfl⟩
theorem ty183 : TyOk Try.prog 183 ⟨Try.t183.desc, 2, 32, Try.t183.zero⟩ := ⟨Try.underlying183, Try.t183, info_of_run Try.typeInfo183, rfl, rfl, rfl⟩
theorem ty184 : TyOk Try.prog 184 ⟨Try.t183.desc, 2, 32, Try.t184.zero⟩ := ⟨Try.underlying184, Try.t184, info_of_run Try.typeInfo184, rfl, rfl, rfl⟩
theorem ty185 : TyOk Try.prog 185 ⟨Try.t185.desc, 1, 8, Try.t185.zero⟩ := ⟨Try.underlying185, Try.t185, info_of_run Try.typeInfo185, rfl, rfl, rfl⟩
theorem ty186 : TyOk Try.prog 186 ⟨Try.t186.desc, 1, 8, Try.t186.zero⟩ := ⟨Try.underlying186, Try.t186, info_of_run Try.typeInfo186, rfl, rfl, rfl⟩
theorem ty187 : TyOk Try.prog 187 ⟨Try.t187.desc, 0, 0, Try.t187.zero⟩ := ⟨Try.underlying187, Try.t187, info_of_run Try.typeInfo187, rfl, rfl, rfl⟩
theorem ty188 : TyOk Try.prog 188 ⟨Try.t187.desc, 0, 0, Try.t188.zero⟩ := ⟨Try.underlying188, Try.t188, info_of_run Try.typeInfo188, rfl, rfl, rfl⟩
theorem ty189 : TyOk Try.prog 189 ⟨Try.t189.desc, 1, 8, Try.t189.zero⟩ := ⟨Try.underlying189, Try.t189, info_of_run Try.typeInfo189, rfl, rfl, rfl⟩
theorem ty190 : TyOk Try.prog 190 ⟨Try.t190.desc, 1, 8, Try.t190.zero⟩ := ⟨Try.underlying190, Try.t190, info_of_run Try.typeInfo190, rfl, rfl, rfl⟩
theorem ty191 : TyOk Try.prog 191 ⟨Try.t191.desc, 1, 8, Try.t191.zero⟩ := ⟨Try.underlying191, Try.t191, info_of_run Try.typeInfo191, rfl, rfl, rfl⟩
theorem ty192 : TyOk Try.prog 192 ⟨Try.t192.desc, 1, 8, Try.t192.zero⟩ := ⟨Try.underlying192, Try.t192, info_of_run Try.typeInfo192, rfl, rfl, rfl⟩
theorem ty193 : TyOk Try.prog 193 ⟨Try.t193.desc, 1, 8, Try.t193.zero⟩ := ⟨Try.underlying193, Try.t193, info_of_run Try.typeInfo193, rfl, rfl, rfl⟩
theorem ty194 : TyOk Try.prog 194 ⟨Try.t194.desc, 1, 8, Try.t194.zero⟩ := ⟨Try.underlying194, Try.t194, info_of_run Try.typeInfo194, rfl, rfl, rfl⟩
theorem ty195 : TyOk Try.prog 195 ⟨Try.t195.desc, 1, 8, Try.t195.zero⟩ := ⟨Try.underlying195, Try.t195, info_of_run Try.typeInfo195, rfl, rfl, rfl⟩
theorem ty196 : TyOk Try.prog 196 ⟨Try.t196.desc, 2, 16, Try.t196.zero⟩ := ⟨Try.underlying196, Try.t196, info_of_run Try.typeInfo196, rfl, rfl, rfl⟩
theorem ty197 : TyOk Try.prog 197 ⟨Try.t196.desc, 2, 16, Try.t197.zero⟩ := ⟨Try.underlying197, Try.t197, info_of_run Try.typeInfo197, rfl, rfl, rfl⟩
theorem ty198 : TyOk Try.prog 198 ⟨Try.t198.desc, 1, 8, Try.t198.zero⟩ := ⟨Try.underlying198, Try.t198, info_of_run Try.typeInfo198, rfl, rfl, rfl⟩
theorem ty199 : TyOk Try.prog 199 ⟨Try.t199.desc, 1, 8, Try.t199.zero⟩ := ⟨Try.underlying199, Try.t199, info_of_run Try.typeInfo199, rfl, rfl, rfl⟩
theorem ty200 : TyOk Try.prog 200 ⟨Try.t200.desc, 1, 8, Try.t200.zero⟩ := ⟨Try.underlying200, Try.t200, info_of_run Try.typeInfo200, rfl, rfl, rfl⟩
theorem ty201 : TyOk Try.prog 201 ⟨Try.t201.desc, 1, 8, Try.t201.zero⟩ := ⟨Try.underlying201, Try.t201, info_of_run Try.typeInfo201, rfl, rfl, rfl⟩
theorem ty202 : TyOk Try.prog 202 ⟨Try.t202.desc, 1, 8, Try.t202.zero⟩ := ⟨Try.underlying202, Try.t202, info_of_run Try.typeInfo202, rfl, rfl, rfl⟩
theorem ty203 : TyOk Try.prog 203 ⟨Try.t203.desc, 1, 8, Try.t203.zero⟩ := ⟨Try.underlying203, Try.t203, info_of_run Try.typeInfo203, rfl, rfl, rfl⟩
theorem ty204 : TyOk Try.prog 204 ⟨Try.t204.desc, 1, 8, Try.t204.zero⟩ := ⟨Try.underlying204, Try.t204, info_of_run Try.typeInfo204, rfl, rfl, rfl⟩
theorem ty205 : TyOk Try.prog 205 ⟨Try.t205.desc, 1, 0, Try.t205.zero⟩ := ⟨Try.underlying205, Try.t205, info_of_run Try.typeInfo205, rfl, rfl, rfl⟩
theorem ty206 : TyOk Try.prog 206 ⟨Try.t206.desc, 1, 8, Try.t206.zero⟩ := ⟨Try.underlying206, Try.t206, info_of_run Try.typeInfo206, rfl, rfl, rfl⟩
theorem ty207 : TyOk Try.prog 207 ⟨Try.t207.desc, 1, 8, Try.t207.zero⟩ := ⟨Try.underlying207, Try.t207, info_of_run Try.typeInfo207, rfl, rfl, rfl⟩
theorem ty208 : TyOk Try.prog 208 ⟨Try.t208.desc, 1, 8, Try.t208.zero⟩ := ⟨Try.underlying208, Try.t208, info_of_run Try.typeInfo208, rfl, rfl, rfl⟩
theorem ty209 : TyOk Try.prog 209 ⟨Try.t209.desc, 1, 8, Try.t209.zero⟩ := ⟨Try.underlying209, Try.t209, info_of_run Try.typeInfo209, rfl, rfl, rfl⟩
theorem ty210 : TyOk Try.prog 210 ⟨Try.t210.desc, 1, 8, Try.t210.zero⟩ := ⟨Try.underlying210, Try.t210, info_of_run Try.typeInfo210, rfl, rfl, rfl⟩
theorem ty211 : TyOk Try.prog 211 ⟨Try.t211.desc, 2, 16, Try.t211.zero⟩ := ⟨Try.underlying211, Try.t211, info_of_run Try.typeInfo211, rfl, rfl, rfl⟩
theorem ty212 : TyOk Try.prog 212 ⟨Try.t211.desc, 2, 16, Try.t212.zero⟩ := ⟨Try.underlying212, Try.t212, info_of_run Try.typeInfo212, rfl, rfl, rfl⟩
theorem ty213 : TyOk Try.prog 213 ⟨Try.t213.desc, 10, 80, Try.t213.zero⟩ := ⟨Try.underlying213, Try.t213, info_of_run Try.typeInfo213, rfl, rfl, rfl⟩
theorem ty214 : TyOk Try.prog 214 ⟨Try.t214.desc, 1, 8, Try.t214.zero⟩ := ⟨Try.underlying214, Try.t214, info_of_run Try.typeInfo214, rfl, rfl, rfl⟩
theorem ty215 : TyOk Try.prog 215 ⟨Try.t215.desc, 1, 8, Try.t215.zero⟩ := ⟨Try.underlying215, Try.t215, info_of_run Try.typeInfo215, rfl, rfl, rfl⟩
theorem ty216 : TyOk Try.prog 216 ⟨Try.t216.desc, 1, 8, Try.t216.zero⟩ := ⟨Try.underlying216, Try.t216, info_of_run Try.typeInfo216, rfl, rfl, rfl⟩
theorem ty217 : TyOk Try.prog 217 ⟨Try.t217.desc, 1, 8, Try.t217.zero⟩ := ⟨Try.underlying217, Try.t217, info_of_run Try.typeInfo217, rfl, rfl, rfl⟩
theorem ty218 : TyOk Try.prog 218 ⟨Try.t3.desc, 1, 8, Try.t218.zero⟩ := ⟨Try.underlying218, Try.t218, info_of_run Try.typeInfo218, rfl, rfl, rfl⟩
theorem ty219 : TyOk Try.prog 219 ⟨Try.t219.desc, 1, 0, Try.t219.zero⟩ := ⟨Try.underlying219, Try.t219, info_of_run Try.typeInfo219, rfl, rfl, rfl⟩
theorem ty220 : TyOk Try.prog 220 ⟨Try.t220.desc, 1, 8, Try.t220.zero⟩ := ⟨Try.underlying220, Try.t220, info_of_run Try.typeInfo220, rfl, rfl, rfl⟩
theorem ty221 : TyOk Try.prog 221 ⟨Try.t221.desc, 1, 8, Try.t221.zero⟩ := ⟨Try.underlying221, Try.t221, info_of_run Try.typeInfo221, rfl, rfl, rfl⟩
theorem ty222 : TyOk Try.prog 222 ⟨Try.t222.desc, 1, 8, Try.t222.zero⟩ := ⟨Try.underlying222, Try.t222, info_of_run Try.typeInfo222, rfl, rfl, rfl⟩
theorem ty223 : TyOk Try.prog 223 ⟨Try.t223.desc, 1, 0, Try.t223.zero⟩ := ⟨Try.underlying223, Try.t223, info_of_run Try.typeInfo223, rfl, rfl, rfl⟩
theorem ty224 : TyOk Try.prog 224 ⟨Try.t224.desc, 1, 8, Try.t224.zero⟩ := ⟨Try.underlying224, Try.t224, info_of_run Try.typeInfo224, rfl, rfl, rfl⟩
theorem ty225 : TyOk Try.prog 225 ⟨Try.t225.desc, 1, 8, Try.t225.zero⟩ := ⟨Try.underlying225, Try.t225, info_of_run Try.typeInfo225, rfl, rfl, rfl⟩
theorem ty226 : TyOk Try.prog 226 ⟨Try.t226.desc, 1, 8, Try.t226.zero⟩ := ⟨Try.underlying226, Try.t226, info_of_run Try.typeInfo226, rfl, rfl, rfl⟩
theorem ty227 : TyOk Try.prog 227 ⟨Try.t227.desc, 1, 8, Try.t227.zero⟩ := ⟨Try.underlying227, Try.t227, info_of_run Try.typeInfo227, rfl, rfl, rfl⟩
theorem ty228 : TyOk Try.prog 228 ⟨Try.t228.desc, 1, 24, Try.t228.zero⟩ := ⟨Try.underlying228, Try.t228, info_of_run Try.typeInfo228, rfl, rfl, rfl⟩
theorem ty229 : TyOk Try.prog 229 ⟨Try.t229.desc, 1, 8, Try.t229.zero⟩ := ⟨Try.underlying229, Try.t229, info_of_run Try.typeInfo229, rfl, rfl, rfl⟩
theorem ty230 : TyOk Try.prog 230 ⟨Try.t230.desc, 1, 8, Try.t230.zero⟩ := ⟨Try.underlying230, Try.t230, info_of_run Try.typeInfo230, rfl, rfl, rfl⟩
theorem ty231 : TyOk Try.prog 231 ⟨Try.t231.desc, 1, 0, Try.t231.zero⟩ := ⟨Try.underlying231, Try.t231, info_of_run Try.typeInfo231, rfl, rfl, rfl⟩
theorem ty232 : TyOk Try.prog 232 ⟨Try.t232.desc, 1, 0, Try.t232.zero⟩ := ⟨Try.underlying232, Try.t232, info_of_run Try.typeInfo232, rfl, rfl, rfl⟩
theorem ty233 : TyOk Try.prog 233 ⟨Try.t233.desc, 1, 8, Try.t233.zero⟩ := ⟨Try.underlying233, Try.t233, info_of_run Try.typeInfo233, rfl, rfl, rfl⟩
theorem ty234 : TyOk Try.prog 234 ⟨Try.t227.desc, 1, 8, Try.t234.zero⟩ := ⟨Try.underlying234, Try.t234, info_of_run Try.typeInfo234, rfl, rfl, rfl⟩
theorem ty235 : TyOk Try.prog 235 ⟨Try.t235.desc, 1, 8, Try.t235.zero⟩ := ⟨Try.underlying235, Try.t235, info_of_run Try.typeInfo235, rfl, rfl, rfl⟩
theorem ty236 : TyOk Try.prog 236 ⟨Try.t236.desc, 1, 8, Try.t236.zero⟩ := ⟨Try.underlying236, Try.t236, info_of_run Try.typeInfo236, rfl, rfl, rfl⟩
theorem ty237 : TyOk Try.prog 237 ⟨Try.t237.desc, 1, 8, Try.t237.zero⟩ := ⟨Try.underlying237, Try.t237, info_of_run Try.typeInfo237, rfl, rfl, rfl⟩
theorem ty238 : TyOk Try.prog 238 ⟨Try.t238.desc, 1, 8, Try.t238.zero⟩ := ⟨Try.underlying238, Try.t238, info_of_run Try.typeInfo238, rfl, rfl, rfl⟩
theorem ty239 : TyOk Try.prog 239 ⟨Try.t239.desc, 1, 8, Try.t239.zero⟩ := ⟨Try.underlying239, Try.t239, info_of_run Try.typeInfo239, rfl, rfl, rfl⟩
theorem ty240 : TyOk Try.prog 240 ⟨Try.t240.desc, 1, 8, Try.t240.zero⟩ := ⟨Try.underlying240, Try.t240, info_of_run Try.typeInfo240, rfl, rfl, rfl⟩
theorem ty241 : TyOk Try.prog 241 ⟨Try.t241.desc, 1, 8, Try.t241.zero⟩ := ⟨Try.underlying241, Try.t241, info_of_run Try.typeInfo241, rfl, rfl, rfl⟩
theorem ty242 : TyOk Try.prog 242 ⟨Try.t242.desc, 4, 40, Try.t242.zero⟩ := ⟨Try.underlying242, Try.t242, info_of_run Try.typeInfo242, rfl, rfl, rfl⟩
theorem ty243 : TyOk Try.prog 243 ⟨Try.t242.desc, 4, 40, Try.t243.zero⟩ := ⟨Try.underlying243, Try.t243, info_of_run Try.typeInfo243, rfl, rfl, rfl⟩
theorem ty244 : TyOk Try.prog 244 ⟨Try.t244.desc, 0, 0, Try.t244.zero⟩ := ⟨Try.underlying244, Try.t244, info_of_run Try.typeInfo244, rfl, rfl, rfl⟩
theorem ty245 : TyOk Try.prog 245 ⟨Try.t245.desc, 0, 0, Try.t245.zero⟩ := ⟨Try.underlying245, Try.t245, info_of_run Try.typeInfo245, rfl, rfl, rfl⟩
theorem ty246 : TyOk Try.prog 246 ⟨Try.t245.desc, 0, 0, Try.t246.zero⟩ := ⟨Try.underlying246, Try.t246, info_of_run Try.typeInfo246, rfl, rfl, rfl⟩
theorem ty247 : TyOk Try.prog 247 ⟨Try.t5.desc, 1, 1, Try.t247.zero⟩ := ⟨Try.underlying247, Try.t247, info_of_run Try.typeInfo247, rfl, rfl, rfl⟩
theorem ty248 : TyOk Try.prog 248 ⟨Try.t5.desc, 1, 1, Try.t248.zero⟩ := ⟨Try.underlying248, Try.t248, info_of_run Try.typeInfo248, rfl, rfl, rfl⟩
theorem ty249 : TyOk Try.prog 249 ⟨Try.t249.desc, 1, 8, Try.t249.zero⟩ := ⟨Try.underlying249, Try.t249, info_of_run Try.typeInfo249, rfl, rfl, rfl⟩
theorem ty250 : TyOk Try.prog 250 ⟨Try.t250.desc, 1, 8, Try.t250.zero⟩ := ⟨Try.underlying250, Try.t250, info_of_run Try.typeInfo250, rfl, rfl, rfl⟩
theorem ty251 : TyOk Try.prog 251 ⟨Try.t21.desc, 1, 4, Try.t251.zero⟩ := ⟨Try.underlying251, Try.t251, info_of_run Try.typeInfo251, rfl, rfl, rfl⟩
theorem ty252 : TyOk Try.prog 252 ⟨Try.t21.desc, 1, 4, Try.t252.zero⟩ := ⟨Try.underlying252, Try.t252, info_of_run Try.typeInfo252, rfl, rfl, rfl⟩
theorem ty253 : TyOk Try.prog 253 ⟨Try.t253.desc, 11, 48, Try.t253.zero⟩ := ⟨Try.underlying253, Try.t253, info_of_run Try.typeInfo253, rfl, rfl, rfl⟩
theorem ty254 : TyOk Try.prog 254 ⟨Try.t253.desc, 11, 48, Try.t254.zero⟩ := ⟨Try.underlying254, Try.t254, info_of_run Try.typeInfo254, rfl, rfl, rfl⟩
theorem ty255 : TyOk Try.prog 255 ⟨Try.t255.desc, 1, 8, Try.t255.zero⟩ := ⟨Try.underlying255, Try.t255, info_of_run Try.typeInfo255, rfl, rfl, rfl⟩
theorem tab_all : ∀ p ∈ tab, TyOk Try.prog p.1 p.2 :=
  List.forall_mem_cons.2 ⟨ty0,
  List.forall_mem_cons.2 ⟨ty1,
  List.forall_mem_cons.2 ⟨ty2,
  List.forall_mem_cons.2 ⟨ty3,
  List.forall_mem_cons.2 ⟨ty4,
  List.forall_mem_cons.2 ⟨ty5,
  List.forall_mem_cons.2 ⟨ty6,
  List.forall_mem_cons.2 ⟨ty7,
  List.forall_mem_cons.2 ⟨ty8,
  List.forall_mem_cons.2 ⟨ty9,
  List.forall_mem_cons.2 ⟨ty10,
  List.forall_mem_cons.2 ⟨ty11,
  List.forall_mem_cons.2 ⟨ty12,
  List.forall_mem_cons.2 ⟨ty13,
  List.forall_mem_cons.2 ⟨ty14,
  List.forall_mem_cons.2 ⟨ty15,
  List.forall_mem_cons.2 ⟨ty16,
  List.forall_mem_cons.2 ⟨ty17,
  List.forall_mem_cons.2 ⟨ty18,
  List.forall_mem_cons.2 ⟨ty19,
  List.forall_mem_cons.2 ⟨ty20,
  List.forall_mem_cons.2 ⟨ty21,
  List.forall_mem_cons.2 ⟨ty22,
  List.forall_mem_cons.2 ⟨ty23,
  List.forall_mem_cons.2 ⟨ty24,
  List.forall_mem_cons.2 ⟨ty25,
  List.forall_mem_cons.2 ⟨ty26,
  List.forall_mem_cons.2 ⟨ty27,
  List.forall_mem_cons.2 ⟨ty28,
  List.forall_mem_cons.2 ⟨ty29,
  List.forall_mem_cons.2 ⟨ty30,
  List.forall_mem_cons.2 ⟨ty31,
  List.forall_mem_cons.2 ⟨ty32,
  List.forall_mem_cons.2 ⟨ty33,
  List.forall_mem_cons.2 ⟨ty34,
  List.forall_mem_cons.2 ⟨ty35,
  List.forall_mem_cons.2 ⟨ty36,
  List.forall_mem_cons.2 ⟨ty37,
  List.forall_mem_cons.2 ⟨ty38,
  List.forall_mem_cons.2 ⟨ty39,
  List.forall_mem_cons.2 ⟨ty40,
  List.forall_mem_cons.2 ⟨ty41,
  List.forall_mem_cons.2 ⟨ty42,
  List.forall_mem_cons.2 ⟨ty43,
  List.forall_mem_cons.2 ⟨ty44,
  List.forall_mem_cons.2 ⟨ty45,
  List.forall_mem_cons.2 ⟨ty46,
  List.forall_mem_cons.2 ⟨ty47,
  List.forall_mem_cons.2 ⟨ty48,
  List.forall_mem_cons.2 ⟨ty49,
  List.forall_mem_cons.2 ⟨ty50,
  List.forall_mem_cons.2 ⟨ty51,
  List.forall_mem_cons.2 ⟨ty52,
  List.forall_mem_cons.2 ⟨ty53,
  List.forall_mem_cons.2 ⟨ty54,
  List.forall_mem_cons.2 ⟨ty55,
  List.forall_mem_cons.2 ⟨ty56,
  List.forall_mem_cons.2 ⟨ty57,
  List.forall_mem_cons.2 ⟨ty58,
  List.forall_mem_cons.2 ⟨ty59,
  List.forall_mem_cons.2 ⟨ty60,
  List.forall_mem_cons.2 ⟨ty61,
  List.forall_mem_cons.2 ⟨ty62,
  List.forall_mem_cons.2 ⟨ty63,
  List.forall_mem_cons.2 ⟨ty64,
  List.forall_mem_cons.2 ⟨ty65,
  List.forall_mem_cons.2 ⟨ty66,
  List.forall_mem_cons.2 ⟨ty67,
  List.forall_mem_cons.2 ⟨ty68,
  List.forall_mem_cons.2 ⟨ty69,
  List.forall_mem_cons.2 ⟨ty70,
  List.forall_mem_cons.2 ⟨ty71,
  List.forall_mem_cons.2 ⟨ty72,
  List.forall_mem_cons.2 ⟨ty73,
  List.forall_mem_cons.2 ⟨ty74,
  List.forall_mem_cons.2 ⟨ty75,
  List.forall_mem_cons.2 ⟨ty76,
  List.forall_mem_cons.2 ⟨ty77,
  List.forall_mem_cons.2 ⟨ty78,
  List.forall_mem_cons.2 ⟨ty79,
  List.forall_mem_cons.2 ⟨ty80,
  List.forall_mem_cons.2 ⟨ty81,
  List.forall_mem_cons.2 ⟨ty82,
  List.forall_mem_cons.2 ⟨ty83,
  List.forall_mem_cons.2 ⟨ty84,
  List.forall_mem_cons.2 ⟨ty85,
  List.forall_mem_cons.2 ⟨ty86,
  List.forall_mem_cons.2 ⟨ty87,
  List.forall_mem_cons.2 ⟨ty88,
  List.forall_mem_cons.2 ⟨ty89,
  List.forall_mem_cons.2 ⟨ty90,
  List.forall_mem_cons.2 ⟨ty91,
  List.forall_mem_cons.2 ⟨ty92,
  List.forall_mem_cons.2 ⟨ty93,
  List.forall_mem_cons.2 ⟨ty94,
  List.forall_mem_cons.2 ⟨ty95,
  List.forall_mem_cons.2 ⟨ty96,
  List.forall_mem_cons.2 ⟨ty97,
  List.forall_mem_cons.2 ⟨ty98,
  List.forall_mem_cons.2 ⟨ty99,
  List.forall_mem_cons.2 ⟨ty100,
  List.forall_mem_cons.2 ⟨ty101,
  List.forall_mem_cons.2 ⟨ty102,
  List.forall_mem_cons.2 ⟨ty103,
  List.forall_mem_cons.2 ⟨ty104,
  List.forall_mem_cons.2 ⟨ty105,
  List.forall_mem_cons.2 ⟨ty106,
  List.forall_mem_cons.2 ⟨ty107,
  List.forall_mem_cons.2 ⟨ty108,
  List.forall_mem_cons.2 ⟨ty109,
  List.forall_mem_cons.2 ⟨ty110,
  List.forall_mem_cons.2 ⟨ty111,
  List.forall_mem_cons.2 ⟨ty112,
  List.forall_mem_cons.2 ⟨ty113,
  List.forall_mem_cons.2 ⟨ty114,
  List.forall_mem_cons.2 ⟨ty115,
  List.forall_mem_cons.2 ⟨ty116,
  List.forall_mem_cons.2 ⟨ty117,
  List.forall_mem_cons.2 ⟨ty118,
  List.forall_mem_cons.2 ⟨ty119,
  List.forall_mem_cons.2 ⟨ty120,
  List.forall_mem_cons.2 ⟨ty121,
  List.forall_mem_cons.2 ⟨ty122,
  List.forall_mem_cons.2 ⟨ty123,
  List.forall_mem_cons.2 ⟨ty124,
  List.forall_mem_cons.2 ⟨ty125,
  List.forall_mem_cons.2 ⟨ty126,
  List.forall_mem_cons.2 ⟨ty127,
  List.forall_mem_cons.2 ⟨ty128,
  List.forall_mem_cons.2 ⟨ty129,
  List.forall_mem_cons.2 ⟨ty130,
  List.forall_mem_cons.2 ⟨ty131,
  List.forall_mem_cons.2 ⟨ty132,
  List.forall_mem_cons.2 ⟨ty133,
  List.forall_mem_cons.2 ⟨ty134,
  List.forall_mem_cons.2 ⟨ty135,
  List.forall_mem_cons.2 ⟨ty136,
  List.forall_mem_cons.2 ⟨ty137,
  List.forall_mem_cons.2 ⟨ty138,
  List.forall_mem_cons.2 ⟨ty139,
  List.forall_mem_cons.2 ⟨ty140,
  List.forall_mem_cons.2 ⟨ty141,
  List.forall_mem_cons.2 ⟨ty142,
  List.forall_mem_cons.2 ⟨ty143,
  List.forall_mem_cons.2 ⟨ty144,
  List.forall_mem_cons.2 ⟨ty145,
  List.forall_mem_cons.2 ⟨ty146,
  List.forall_mem_cons.2 ⟨ty147,
  List.forall_mem_cons.2 ⟨ty148,
  List.forall_mem_cons.2 ⟨ty149,
  List.forall_mem_cons.2 ⟨ty150,
  List.forall_mem_cons.2 ⟨ty151,
  List.forall_mem_cons.2 ⟨ty152,
  List.forall_mem_cons.2 ⟨ty153,
  List.forall_mem_cons.2 ⟨ty154,
  List.forall_mem_cons.2 ⟨ty155,
  List.forall_mem_cons.2 ⟨ty156,
  List.forall_mem_cons.2 ⟨ty157,
  List.forall_mem_cons.2 ⟨ty158,
  List.forall_mem_cons.2 ⟨ty159,
  List.forall_mem_cons.2 ⟨ty160,
  List.forall_mem_cons.2 ⟨ty161,
  List.forall_mem_cons.2 ⟨ty162,
  List.forall_mem_cons.2 ⟨ty163,
  List.forall_mem_cons.2 ⟨ty164,
  List.forall_mem_cons.2 ⟨ty165,
  List.forall_mem_cons.2 ⟨ty166,
  List.forall_mem_cons.2 ⟨ty167,
  List.forall_mem_cons.2 ⟨ty168,
  List.forall_mem_cons.2 ⟨ty169,
  List.forall_mem_cons.2 ⟨ty170,
  List.forall_mem_cons.2 ⟨ty171,
  List.forall_mem_cons.2 ⟨ty172,
  List.forall_mem_cons.2 ⟨ty173,
  List.forall_mem_cons.2 ⟨ty174,
  List.forall_mem_cons.2 ⟨ty175,
  List.forall_mem_cons.2 ⟨ty176,
  List.forall_mem_cons.2 ⟨ty177,
  List.forall_mem_cons.2 ⟨ty178,
  List.forall_mem_cons.2 ⟨ty179,
  List.forall_mem_cons.2 ⟨ty180,
  List.forall_mem_cons.2 ⟨ty181,
  List.forall_mem_cons.2 ⟨ty182,
  List.forall_mem_cons.2 ⟨ty183,
  List.forall_mem_cons.2 ⟨ty184,
  List.forall_mem_cons.2 ⟨ty185,
  List.forall_mem_cons.2 ⟨ty186,
  List.forall_mem_cons.2 ⟨ty187,
  List.forall_mem_cons.2 ⟨ty188,
  List.forall_mem_cons.2 ⟨ty189,
  List.forall_mem_cons.2 ⟨ty190,
  List.forall_mem_cons.2 ⟨ty191,
  List.forall_mem_cons.2 ⟨ty192,
  List.forall_mem_cons.2 ⟨ty193,
  List.forall_mem_cons.2 ⟨ty194,
  List.forall_mem_cons.2 ⟨ty195,
  List.forall_mem_cons.2 ⟨ty196,
  List.forall_mem_cons.2 ⟨ty197,
  List.forall_mem_cons.2 ⟨ty198,
  List.forall_mem_cons.2 ⟨ty199,
  List.forall_mem_cons.2 ⟨ty200,
  List.forall_mem_cons.2 ⟨ty201,
  List.forall_mem_cons.2 ⟨ty202,
  List.forall_mem_cons.2 ⟨ty203,
  List.forall_mem_cons.2 ⟨ty204,
  List.forall_mem_cons.2 ⟨ty205,
  List.forall_mem_cons.2 ⟨ty206,
  List.forall_mem_cons.2 ⟨ty207,
  List.forall_mem_cons.2 ⟨ty208,
  List.forall_mem_cons.2 ⟨ty209,
  List.forall_mem_cons.2 ⟨ty210,
  List.forall_mem_cons.2 ⟨ty211,
  List.forall_mem_cons.2 ⟨ty212,
  List.forall_mem_cons.2 ⟨ty213,
  List.forall_mem_cons.2 ⟨ty214,
  List.forall_mem_cons.2 ⟨ty215,
  List.forall_mem_cons.2 ⟨ty216,
  List.forall_mem_cons.2 ⟨ty217,
  List.forall_mem_cons.2 ⟨ty218,
  List.forall_mem_cons.2 ⟨ty219,
  List.forall_mem_cons.2 ⟨ty220,
  List.forall_mem_cons.2 ⟨ty221,
  List.forall_mem_cons.2 ⟨ty222,
  List.forall_mem_cons.2 ⟨ty223,
  List.forall_mem_cons.2 ⟨ty224,
  List.forall_mem_cons.2 ⟨ty225,
  List.forall_mem_cons.2 ⟨ty226,
  List.forall_mem_cons.2 ⟨ty227,
  List.forall_mem_cons.2 ⟨ty228,
  List.forall_mem_cons.2 ⟨ty229,
  List.forall_mem_cons.2 ⟨ty230,
  List.forall_mem_cons.2 ⟨ty231,
  List.forall_mem_cons.2 ⟨ty232,
  List.forall_mem_cons.2 ⟨ty233,
  List.forall_mem_cons.2 ⟨ty234,
  List.forall_mem_cons.2 ⟨ty235,
  List.forall_mem_cons.2 ⟨ty236,
  List.forall_mem_cons.2 ⟨ty237,
  List.forall_mem_cons.2 ⟨ty238,
  List.forall_mem_cons.2 ⟨ty239,
  List.forall_mem_cons.2 ⟨ty240,
  List.forall_mem_cons.2 ⟨ty241,
  List.forall_mem_cons.2 ⟨ty242,
  List.forall_mem_cons.2 ⟨ty243,
  List.forall_mem_cons.2 ⟨ty244,
  List.forall_mem_cons.2 ⟨ty245,
  List.forall_mem_cons.2 ⟨ty246,
  List.forall_mem_cons.2 ⟨ty247,
  List.forall_mem_cons.2 ⟨ty248,
  List.forall_mem_cons.2 ⟨ty249,
  List.forall_mem_cons.2 ⟨ty250,
  List.forall_mem_cons.2 ⟨ty251,
  List.forall_mem_cons.2 ⟨ty252,
  List.forall_mem_cons.2 ⟨ty253,
  List.forall_mem_cons.2 ⟨ty254,
  List.forall_mem_cons.2 ⟨ty255,
  fun _ hp => absurd hp List.not_mem_nil⟩⟩⟩⟩⟩⟩⟩⟩⟩⟩⟩⟩⟩⟩⟩⟩⟩⟩⟩⟩⟩⟩⟩⟩⟩⟩⟩⟩⟩⟩⟩⟩⟩⟩⟩⟩⟩⟩⟩⟩⟩⟩⟩⟩⟩⟩⟩⟩⟩⟩⟩⟩⟩⟩⟩⟩⟩⟩⟩⟩⟩⟩⟩⟩⟩⟩⟩⟩⟩⟩⟩⟩⟩⟩⟩⟩⟩⟩⟩⟩⟩⟩⟩⟩⟩⟩⟩⟩⟩⟩⟩⟩⟩⟩⟩⟩⟩⟩⟩⟩⟩⟩⟩⟩⟩⟩⟩⟩⟩⟩⟩⟩⟩⟩⟩⟩⟩⟩⟩⟩⟩⟩⟩⟩⟩⟩⟩⟩⟩⟩⟩⟩⟩⟩⟩⟩⟩⟩⟩⟩⟩⟩⟩⟩⟩⟩⟩⟩⟩⟩⟩⟩⟩⟩⟩⟩⟩⟩⟩⟩⟩⟩⟩⟩⟩⟩⟩⟩⟩⟩⟩⟩⟩⟩⟩⟩⟩⟩⟩⟩⟩⟩⟩⟩⟩⟩⟩⟩⟩⟩⟩⟩⟩⟩⟩⟩⟩⟩⟩⟩⟩⟩⟩⟩⟩⟩⟩⟩⟩⟩⟩⟩⟩⟩⟩⟩⟩⟩⟩⟩⟩⟩⟩⟩⟩⟩⟩⟩⟩⟩⟩⟩⟩⟩⟩⟩⟩⟩⟩⟩⟩⟩⟩⟩⟩⟩⟩⟩⟩⟩⟩⟩⟩⟩⟩⟩
noncomputable def E : Env := { P := Try.prog, tab := tab, ok := tab_ok tab_all, mixed := by kernel_rfl }
theorem eqty43 (d : Nat) : EqTy E (d + 1) 43 [.int] := EqTy.int rfl rfl
theorem eqty47 (d : Nat) : EqTy E (d + 2) 47 [.int, .int, .int] := EqTy.arr rfl rfl (eqty43 _) rfl
theorem eqty42 (d : Nat) : EqTy E (d + 1) 42 [.int] := EqTy.int rfl rfl
theorem eqty45 (d : Nat) : EqTy E (d + 2) 45 [.int, .int, .int, .int, .int, .int, .int, .int, .int, .int, .int, .int] := EqTy.arr rfl rfl (eqty43 _) rfl
theorem eqty3 (d : Nat) : EqTy E (d + 1) 3 [.int] := EqTy.int rfl rfl
theorem eqty49 (d : Nat) : EqTy E (d + 3) 49 [.int, .int, .int, .int, .int, .int] := by
  refine (EqTy.struct rfl rfl Try.stoodInHeld49 (EqFs.cons rfl ?_ (eqty47 _) (EqFs.cons rfl ?_ (eqty47 _) (EqFs.nil) rfl) rfl)) <;> decide
theorem eqty4 (d : Nat) : EqTy E (d + 1) 4 [.bool] := EqTy.bool rfl rfl
theorem eqty51 (d : Nat) : EqTy E (d + 4) 51 [.int, .int, .int, .int, .int, .int, .int, .int, .int, .int, .int, .int, .int, .int, .int, .int, .int, .int, .int, .int, .int, .int, .bool, .int] := by
  refine (EqTy.struct rfl rfl Try.stoodInHeld51 (EqFs.cons rfl ?_ (eqty42 _) (EqFs.cons rfl ?_ (eqty45 _) (EqFs.cons rfl ?_ (eqty3 _) (EqFs.cons rfl ?_ (eqty49 _) (EqFs.cons rfl ?_ (eqty3 _) (EqFs.cons rfl ?_ (eqty3 _) (EqFs.cons rfl ?_ (eqty4 _) (EqFs.cons rfl ?_ (eqty3 _) (EqFs.nil) rfl) rfl) rfl) rfl) rfl) rfl) rfl) rfl)) <;> decide
def eqs : List (Nat × List Kd) := [(47, [.int, .int, .int]), (51, [.int, .int, .int, .int, .int, .int, .int, .int, .int, .int, .int, .int, .int, .int, .int, .int, .int, .int, .int, .int, .int, .int, .bool, .int])]
theorem eqs_ok : EqT E eqs :=
  EqT.cons (eqty47 9998) (by kernel_rfl) (
  EqT.cons (eqty51 9996) (by kernel_rfl) (
  EqT.nil))
end Go.Proofs.Ythkoinngmcpjgaa
