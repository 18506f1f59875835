/- Proved: ways through functions, one by one; printed by a program of mine. Conditions: each stands at its theorem. -/
import Derived.Test.YtenpnejkgopghaaDoorScB
set_option linter.unusedVariables false
set_option linter.unusedSectionVars false
set_option linter.unusedSimpArgs false
set_option maxRecDepth 100000
namespace Go.Proofs.YtenpnejkgopghaaDoor.Tok
open Go Go.RowKit Go.Proofs.YtenpnejkgopghaaDoor.AK
variable [Gnd]
abbrev behindN_V (B g i : Nat) (s : ByteArray) (a : Option Addr) (cc : Nat) : List Value := [.pointer (some ⟨g, 0, none⟩), .string (s), .int .i64 ((i : Nat) : Int), .slice a 0 cc, .pointer (some ⟨g, 2, none⟩)]
abbrev behindN_M (B g i : Nat) (s : ByteArray) (a : Option Addr) (cc : Nat) : List (MSt × Nat) := [(Sc g s (i) ([] : List T) (.st (.slice a 0 cc)), 0)]
theorem behindN {B g i : Nat} {s : ByteArray} {a : Option Addr} {cc : Nat} (hi : i ≤ s.size) (hs : s.size ≤ 1000000) :
    Does Tryd.prog 64 [.pointer (some ⟨g, 0, none⟩)] B (Sc g s (i) ([] : List T) (.st (.slice a 0 cc))) fun u S1 => u = .bool false ∧ S1 = Sc g s (i) ([] : List T) (.st (.slice a 0 cc)) := by
  letI := memEnv (behindN_V B g i s a cc) B (behindN_M B g i s a cc)
  have hV : (behindN_V B g i s a cc).all rawOne = true := (oc rfl (oc rfl (oc rfl (oc rfl (oc rfl rfl)))))
  have r0 : RuleOk Tryd.prog ⟨.nck, [.sx 1 0], none, none, .sx 1 0⟩ := rule_nck (mm hV 0)
  have r1 : RuleOk Tryd.prog ⟨.fldA 43 2, [.sx 1 0], none, none, .sx 1 4⟩ := rule_fld (d := 2) 2 (by kernel_rfl) (mm hV 0) rfl (mm hV 4)
  have r2 : RuleOk Tryd.prog ⟨.load 24, [.sx 1 4], some 0, none, .sx 1 3⟩ := mld (j := 0) (o := 2) (by kernel_rfl) rfl rfl rfl (mm hV 4) (mm hV 3)
  have r3 : RuleOk Tryd.prog ⟨.len 24, [.sx 1 3], none, none, .int .i64 0⟩ := rule_lenS Tryd.underlying24 (mm hV 3) (Is.int _ _)
  exact (does_run (vals := (behindN_V B g i s a cc)) (L := (behindN_M B g i s a cc)) (fs := []) (f := 64) (avs := [.sx 1 0]) (us := [.pointer (some ⟨g, 0, none⟩)]) (v := .bool false) (k := 0) (rl_c r0 (rl_c r1 (rl_c r2 (rl_c r3 rl_n)))) cl_n rfl rfl (.cons (mm hV 0) .nil) (by kernel_rfl) rfl (Is.bool _)).mono (by rintro u S1 ⟨rfl, vs, hl, rfl⟩; obtain ⟨rfl⟩ := len_0 hl; exact ⟨rfl, rfl⟩)
abbrev behindS_V (B g i b cc : Nat) (s : ByteArray) (ts0 : List T) (t : T) : List Value := [.pointer (some ⟨g, 0, none⟩), .string (s), .int .i64 ((i : Nat) : Int), .slice (some ⟨b, 0, none⟩) (ts0 ++ [t]).length cc, .pointer (some ⟨g, 2, none⟩), .int .i64 (((ts0 ++ [t]).length : Nat) : Int), .int .i64 ((ts0.length : Nat) : Int), .pointer (some ⟨b, (ts0.length * 6), none⟩), .int .i64 ((tokAt (ts0 ++ [t]) (ts0.length)).kind), .pointer (some ⟨b, ((ts0.length * 6) + 1), none⟩), .string ((tokAt (ts0 ++ [t]) (ts0.length)).text), .pointer (some ⟨b, ((ts0.length * 6) + 5), none⟩), .int .i64 ((tokAt (ts0 ++ [t]) (ts0.length)).at_), .pointer (some ⟨g, 1, none⟩), .int .i64 ((((i : Nat) : Int) - (1 : Int)))]
abbrev behindS_M (B g i b cc : Nat) (s : ByteArray) (ts0 : List T) (t : T) : List (MSt × Nat) := [(Sc g s (i) (ts0 ++ [t]) (.st (.slice (some ⟨b, 0, none⟩) (ts0 ++ [t]).length cc)), 0)]
theorem behindS {B g i b cc : Nat} {s : ByteArray} {ts0 : List T} {t : T} (hi : i ≤ s.size) (hs : s.size ≤ 1000000) (hts : ts0.length ≤ 1000000) :
    (((0 : Int) < (((ts0 ++ [t]).length : Nat) : Int)) → (((tokAt (ts0 ++ [t]) (ts0.length)).kind = (1 : Int)) → ((((tokAt (ts0 ++ [t]) (ts0.length)).text == (⟨#[45]⟩ : ByteArray)) = true) → (((tokAt (ts0 ++ [t]) (ts0.length)).at_ = (((i : Nat) : Int) - (1 : Int))) → Does Tryd.prog 64 [.pointer (some ⟨g, 0, none⟩)] B (Sc g s (i) (ts0 ++ [t]) (.st (.slice (some ⟨b, 0, none⟩) (ts0 ++ [t]).length cc))) fun u S1 => u = .bool true ∧ S1 = Sc g s (i) (ts0 ++ [t]) (.st (.slice (some ⟨b, 0, none⟩) (ts0 ++ [t]).length cc))) ∧
    (¬ ((tokAt (ts0 ++ [t]) (ts0.length)).at_ = (((i : Nat) : Int) - (1 : Int))) → Does Tryd.prog 64 [.pointer (some ⟨g, 0, none⟩)] B (Sc g s (i) (ts0 ++ [t]) (.st (.slice (some ⟨b, 0, none⟩) (ts0 ++ [t]).length cc))) fun u S1 => u = .bool false ∧ S1 = Sc g s (i) (ts0 ++ [t]) (.st (.slice (some ⟨b, 0, none⟩) (ts0 ++ [t]).length cc)))) ∧
    (¬ (((tokAt (ts0 ++ [t]) (ts0.length)).text == (⟨#[45]⟩ : ByteArray)) = true) → Does Tryd.prog 64 [.pointer (some ⟨g, 0, none⟩)] B (Sc g s (i) (ts0 ++ [t]) (.st (.slice (some ⟨b, 0, none⟩) (ts0 ++ [t]).length cc))) fun u S1 => u = .bool false ∧ S1 = Sc g s (i) (ts0 ++ [t]) (.st (.slice (some ⟨b, 0, none⟩) (ts0 ++ [t]).length cc)))) ∧
    (¬ ((tokAt (ts0 ++ [t]) (ts0.length)).kind = (1 : Int)) → Does Tryd.prog 64 [.pointer (some ⟨g, 0, none⟩)] B (Sc g s (i) (ts0 ++ [t]) (.st (.slice (some ⟨b, 0, none⟩) (ts0 ++ [t]).length cc))) fun u S1 => u = .bool false ∧ S1 = Sc g s (i) (ts0 ++ [t]) (.st (.slice (some ⟨b, 0, none⟩) (ts0 ++ [t]).length cc)))) ∧
    (¬ ((0 : Int) < (((ts0 ++ [t]).length : Nat) : Int)) → Does Tryd.prog 64 [.pointer (some ⟨g, 0, none⟩)] B (Sc g s (i) (ts0 ++ [t]) (.st (.slice (some ⟨b, 0, none⟩) (ts0 ++ [t]).length cc))) fun u S1 => u = .bool false ∧ S1 = Sc g s (i) (ts0 ++ [t]) (.st (.slice (some ⟨b, 0, none⟩) (ts0 ++ [t]).length cc))) := by
  letI := memEnv (behindS_V B g i b cc s ts0 t) B (behindS_M B g i b cc s ts0 t)
  have hV : (behindS_V B g i b cc s ts0 t).all rawOne = true := (oc rfl (oc rfl (oc rfl (oc rfl (oc rfl (oc rfl (oc rfl (oc rfl (oc rfl (oc rfl (oc rfl (oc rfl (oc rfl (oc rfl (oc rfl rfl)))))))))))))))
  have f0 := len_snoc ts0 t
  have r0 : RuleOk Tryd.prog ⟨.nck, [.sx 1 0], none, none, .sx 1 0⟩ := rule_nck (mm hV 0)
  have r1 : RuleOk Tryd.prog ⟨.fldA 43 2, [.sx 1 0], none, none, .sx 1 4⟩ := rule_fld (d := 2) 2 (by kernel_rfl) (mm hV 0) rfl (mm hV 4)
  have r2 : RuleOk Tryd.prog ⟨.load 24, [.sx 1 4], some 0, none, .sx 1 3⟩ := mld (j := 0) (o := 2) (by kernel_rfl) rfl rfl rfl (mm hV 4) (mm hV 3)
  have r3 : RuleOk Tryd.prog ⟨.len 24, [.sx 1 3], none, none, .sx 1 5⟩ := rule_lenS Tryd.underlying24 (mm hV 3) (mm hV 5)
  refine ⟨fun h0 => ?_, fun h0 => ?_⟩
  ·
   have r4 : RuleOk Tryd.prog ⟨.bin .gtr 3, [.sx 1 5, .int .i64 0], none, none, .bool true⟩ := rule_cmp _ (mm hV 5) (Is.int _ _) (cmp_gtrT (by omega))
   have r5 : RuleOk Tryd.prog ⟨.bin .sub 3, [.sx 1 5, .int .i64 1], none, none, .sx 1 6⟩ := rule_sub _ (mm hV 5) (Is.int _ _) (mm hV 6) (by omega) (by omega) (by omega)
   have r6 : RuleOk Tryd.prog ⟨.idxA 24, [.sx 1 3, .sx 1 6], none, none, .sx 1 7⟩ := rule_idxA (sz := 6) (j := ts0.length) Tryd.underlying24 (by kernel_rfl) (mm hV 3) (mm hV 6) (by first | omega | (simp; done) | (simp; omega)) rfl (mm hV 7)
   have r7 : RuleOk Tryd.prog ⟨.fldA 33 0, [.sx 1 7], none, none, .sx 1 7⟩ := rule_fld (d := 0) 0 (by kernel_rfl) (mm hV 7) rfl (mm hV 7)
   have r8 : RuleOk Tryd.prog ⟨.load 3, [.sx 1 7], some 0, none, .sx 1 8⟩ := mldr (j := 0) (by kernel_rfl) rfl rfl (tok_at0 (by first | omega | (simp; done) | (simp; omega))) (mm hV 7) (mm hV 8)
   refine ⟨fun h1 => ?_, fun h1 => ?_⟩
   ·
    have r9 : RuleOk Tryd.prog ⟨.bin .eql 3, [.sx 1 8, .int .i64 1], none, none, .bool true⟩ := rule_cmp _ (mm hV 8) (Is.int _ _) (cmp_eqlT (by omega))
    have r10 : RuleOk Tryd.prog ⟨.fldA 33 1, [.sx 1 7], none, none, .sx 1 9⟩ := rule_fld (d := 1) 1 (by kernel_rfl) (mm hV 7) rfl (mm hV 9)
    have r11 : RuleOk Tryd.prog ⟨.load 9, [.sx 1 9], some 0, none, .sx 1 10⟩ := mldr (j := 0) (by kernel_rfl) rfl rfl (tok_at1 (by first | omega | (simp; done) | (simp; omega))) (mm hV 9) (mm hV 10)
    refine ⟨fun h2 => ?_, fun h2 => ?_⟩
    ·
     have r12 : RuleOk Tryd.prog ⟨.bin .eql 9, [.sx 1 10, .str 1 45], none, none, .bool true⟩ := rule_strcmp _ (mm hV 10) (Is.str ⟨#[45]⟩ _ _ rfl rfl) (.inl ⟨rfl, by simp_all⟩)
     have r13 : RuleOk Tryd.prog ⟨.fldA 33 5, [.sx 1 7], none, none, .sx 1 11⟩ := rule_fld (d := 5) 5 (by kernel_rfl) (mm hV 7) rfl (mm hV 11)
     have r14 : RuleOk Tryd.prog ⟨.load 3, [.sx 1 11], some 0, none, .sx 1 12⟩ := mldr (j := 0) (by kernel_rfl) rfl rfl (tok_at5 (by first | omega | (simp; done) | (simp; omega))) (mm hV 11) (mm hV 12)
     have r15 : RuleOk Tryd.prog ⟨.fldA 43 1, [.sx 1 0], none, none, .sx 1 13⟩ := rule_fld (d := 1) 1 (by kernel_rfl) (mm hV 0) rfl (mm hV 13)
     have r16 : RuleOk Tryd.prog ⟨.load 3, [.sx 1 13], some 0, none, .sx 1 2⟩ := mld (j := 0) (o := 1) (by kernel_rfl) rfl rfl rfl (mm hV 13) (mm hV 2)
     have r17 : RuleOk Tryd.prog ⟨.bin .sub 3, [.sx 1 2, .int .i64 1], none, none, .sx 1 14⟩ := rule_sub _ (mm hV 2) (Is.int _ _) (mm hV 14) (by omega) (by omega) (by omega)
     refine ⟨fun h3 => ?_, fun h3 => ?_⟩
     ·
      have r18 : RuleOk Tryd.prog ⟨.bin .eql 3, [.sx 1 12, .sx 1 14], none, none, .bool true⟩ := rule_cmp _ (mm hV 12) (mm hV 14) (cmp_eqlT (by omega))
      exact (does_run (vals := (behindS_V B g i b cc s ts0 t)) (L := (behindS_M B g i b cc s ts0 t)) (fs := []) (f := 64) (avs := [.sx 1 0]) (us := [.pointer (some ⟨g, 0, none⟩)]) (v := .bool true) (k := 0) (rl_c r0 (rl_c r1 (rl_c r2 (rl_c r3 (rl_c r4 (rl_c r5 (rl_c r6 (rl_c r7 (rl_c r8 (rl_c r9 (rl_c r10 (rl_c r11 (rl_c r12 (rl_c r13 (rl_c r14 (rl_c r15 (rl_c r16 (rl_c r17 (rl_c r18 rl_n))))))))))))))))))) cl_n rfl rfl (.cons (mm hV 0) .nil) (by kernel_rfl) rfl (Is.bool _)).mono (by rintro u S1 ⟨rfl, vs, hl, rfl⟩; obtain ⟨rfl⟩ := len_0 hl; exact ⟨rfl, rfl⟩)
     ·
      have r18 : RuleOk Tryd.prog ⟨.bin .eql 3, [.sx 1 12, .sx 1 14], none, none, .bool false⟩ := rule_cmp _ (mm hV 12) (mm hV 14) (cmp_eqlF (by omega))
      exact (does_run (vals := (behindS_V B g i b cc s ts0 t)) (L := (behindS_M B g i b cc s ts0 t)) (fs := []) (f := 64) (avs := [.sx 1 0]) (us := [.pointer (some ⟨g, 0, none⟩)]) (v := .bool false) (k := 0) (rl_c r0 (rl_c r1 (rl_c r2 (rl_c r3 (rl_c r4 (rl_c r5 (rl_c r6 (rl_c r7 (rl_c r8 (rl_c r9 (rl_c r10 (rl_c r11 (rl_c r12 (rl_c r13 (rl_c r14 (rl_c r15 (rl_c r16 (rl_c r17 (rl_c r18 rl_n))))))))))))))))))) cl_n rfl rfl (.cons (mm hV 0) .nil) (by kernel_rfl) rfl (Is.bool _)).mono (by rintro u S1 ⟨rfl, vs, hl, rfl⟩; obtain ⟨rfl⟩ := len_0 hl; exact ⟨rfl, rfl⟩)
    ·
     have r12 : RuleOk Tryd.prog ⟨.bin .eql 9, [.sx 1 10, .str 1 45], none, none, .bool false⟩ := rule_strcmp _ (mm hV 10) (Is.str ⟨#[45]⟩ _ _ rfl rfl) (.inl ⟨rfl, by simp_all⟩)
     exact (does_run (vals := (behindS_V B g i b cc s ts0 t)) (L := (behindS_M B g i b cc s ts0 t)) (fs := []) (f := 64) (avs := [.sx 1 0]) (us := [.pointer (some ⟨g, 0, none⟩)]) (v := .bool false) (k := 0) (rl_c r0 (rl_c r1 (rl_c r2 (rl_c r3 (rl_c r4 (rl_c r5 (rl_c r6 (rl_c r7 (rl_c r8 (rl_c r9 (rl_c r10 (rl_c r11 (rl_c r12 rl_n))))))))))))) cl_n rfl rfl (.cons (mm hV 0) .nil) (by kernel_rfl) rfl (Is.bool _)).mono (by rintro u S1 ⟨rfl, vs, hl, rfl⟩; obtain ⟨rfl⟩ := len_0 hl; exact ⟨rfl, rfl⟩)
   ·
    have r9 : RuleOk Tryd.prog ⟨.bin .eql 3, [.sx 1 8, .int .i64 1], none, none, .bool false⟩ := rule_cmp _ (mm hV 8) (Is.int _ _) (cmp_eqlF (by omega))
    exact (does_run (vals := (behindS_V B g i b cc s ts0 t)) (L := (behindS_M B g i b cc s ts0 t)) (fs := []) (f := 64) (avs := [.sx 1 0]) (us := [.pointer (some ⟨g, 0, none⟩)]) (v := .bool false) (k := 0) (rl_c r0 (rl_c r1 (rl_c r2 (rl_c r3 (rl_c r4 (rl_c r5 (rl_c r6 (rl_c r7 (rl_c r8 (rl_c r9 rl_n)))))))))) cl_n rfl rfl (.cons (mm hV 0) .nil) (by kernel_rfl) rfl (Is.bool _)).mono (by rintro u S1 ⟨rfl, vs, hl, rfl⟩; obtain ⟨rfl⟩ := len_0 hl; exact ⟨rfl, rfl⟩)
  ·
   have r4 : RuleOk Tryd.prog ⟨.bin .gtr 3, [.sx 1 5, .int .i64 0], none, none, .bool false⟩ := rule_cmp _ (mm hV 5) (Is.int _ _) (cmp_gtrF (by omega))
   exact (does_run (vals := (behindS_V B g i b cc s ts0 t)) (L := (behindS_M B g i b cc s ts0 t)) (fs := []) (f := 64) (avs := [.sx 1 0]) (us := [.pointer (some ⟨g, 0, none⟩)]) (v := .bool false) (k := 0) (rl_c r0 (rl_c r1 (rl_c r2 (rl_c r3 (rl_c r4 rl_n))))) cl_n rfl rfl (.cons (mm hV 0) .nil) (by kernel_rfl) rfl (Is.bool _)).mono (by rintro u S1 ⟨rfl, vs, hl, rfl⟩; obtain ⟨rfl⟩ := len_0 hl; exact ⟨rfl, rfl⟩)
abbrev openN_V (B g i : Nat) (s : ByteArray) (a : Option Addr) (cc : Nat) (m : Nat) : List Value := [.pointer (some ⟨g, 0, none⟩), .string (s), .int .i64 ((i : Nat) : Int), .slice a 0 cc, .int .i64 ((m : Nat) : Int), .pointer (some ⟨g, 2, none⟩)]
abbrev openN_M (B g i : Nat) (s : ByteArray) (a : Option Addr) (cc : Nat) (m : Nat) : List (MSt × Nat) := [(Sc g s (i) ([] : List T) (.st (.slice a 0 cc)), 0)]
theorem openN {B g i : Nat} {s : ByteArray} {a : Option Addr} {cc : Nat} {m : Nat} (hi : i ≤ s.size) (hs : s.size ≤ 1000000) :
    Does Tryd.prog 43 [.pointer (some ⟨g, 0, none⟩), .int .i64 ((m : Nat) : Int)] B (Sc g s (i) ([] : List T) (.st (.slice a 0 cc))) fun u S1 => u = .bool false ∧ S1 = Sc g s (i) ([] : List T) (.st (.slice a 0 cc)) := by
  letI := memEnv (openN_V B g i s a cc m) B (openN_M B g i s a cc m)
  have hV : (openN_V B g i s a cc m).all rawOne = true := (oc rfl (oc rfl (oc rfl (oc rfl (oc rfl (oc rfl rfl))))))
  have r0 : RuleOk Tryd.prog ⟨.nck, [.sx 1 0], none, none, .sx 1 0⟩ := rule_nck (mm hV 0)
  have r1 : RuleOk Tryd.prog ⟨.fldA 43 2, [.sx 1 0], none, none, .sx 1 5⟩ := rule_fld (d := 2) 2 (by kernel_rfl) (mm hV 0) rfl (mm hV 5)
  have r2 : RuleOk Tryd.prog ⟨.load 24, [.sx 1 5], some 0, none, .sx 1 3⟩ := mld (j := 0) (o := 2) (by kernel_rfl) rfl rfl rfl (mm hV 5) (mm hV 3)
  have r3 : RuleOk Tryd.prog ⟨.len 24, [.sx 1 3], none, none, .int .i64 0⟩ := rule_lenS Tryd.underlying24 (mm hV 3) (Is.int _ _)
  exact (does_run (vals := (openN_V B g i s a cc m)) (L := (openN_M B g i s a cc m)) (fs := []) (f := 43) (avs := [.sx 1 0, .sx 1 4]) (us := [.pointer (some ⟨g, 0, none⟩), .int .i64 ((m : Nat) : Int)]) (v := .bool false) (k := 0) (rl_c r0 (rl_c r1 (rl_c r2 (rl_c r3 rl_n)))) cl_n rfl rfl (.cons (mm hV 0) (.cons (mm hV 4) .nil)) (by kernel_rfl) rfl (Is.bool _)).mono (by rintro u S1 ⟨rfl, vs, hl, rfl⟩; obtain ⟨rfl⟩ := len_0 hl; exact ⟨rfl, rfl⟩)
abbrev openS_V (B g i b cc : Nat) (s : ByteArray) (ts0 : List T) (t : T) (m : Nat) : List Value := [.pointer (some ⟨g, 0, none⟩), .string (s), .int .i64 ((i : Nat) : Int), .slice (some ⟨b, 0, none⟩) (ts0 ++ [t]).length cc, .int .i64 ((m : Nat) : Int), .pointer (some ⟨g, 2, none⟩), .int .i64 (((ts0 ++ [t]).length : Nat) : Int), .int .i64 ((ts0.length : Nat) : Int), .pointer (some ⟨b, (ts0.length * 6), none⟩), .int .i64 ((tokAt (ts0 ++ [t]) (ts0.length)).kind), .pointer (some ⟨g, 1, none⟩)]
abbrev openS_M (B g i b cc : Nat) (s : ByteArray) (ts0 : List T) (t : T) (m : Nat) : List (MSt × Nat) := [(Sc g s (i) (ts0 ++ [t]) (.st (.slice (some ⟨b, 0, none⟩) (ts0 ++ [t]).length cc)), 0)]
theorem openS {B g i b cc : Nat} {s : ByteArray} {ts0 : List T} {t : T} {m : Nat} (hi : i ≤ s.size) (hs : s.size ≤ 1000000) (hts : ts0.length ≤ 1000000) :
    (((0 : Int) < (((ts0 ++ [t]).length : Nat) : Int)) → (((tokAt (ts0 ++ [t]) (ts0.length)).kind = (1 : Int)) → ((((m : Nat) : Int) = ((i : Nat) : Int)) → Does Tryd.prog 43 [.pointer (some ⟨g, 0, none⟩), .int .i64 ((m : Nat) : Int)] B (Sc g s (i) (ts0 ++ [t]) (.st (.slice (some ⟨b, 0, none⟩) (ts0 ++ [t]).length cc))) fun u S1 => u = .bool true ∧ S1 = Sc g s (i) (ts0 ++ [t]) (.st (.slice (some ⟨b, 0, none⟩) (ts0 ++ [t]).length cc))) ∧
    (¬ (((m : Nat) : Int) = ((i : Nat) : Int)) → Does Tryd.prog 43 [.pointer (some ⟨g, 0, none⟩), .int .i64 ((m : Nat) : Int)] B (Sc g s (i) (ts0 ++ [t]) (.st (.slice (some ⟨b, 0, none⟩) (ts0 ++ [t]).length cc))) fun u S1 => u = .bool false ∧ S1 = Sc g s (i) (ts0 ++ [t]) (.st (.slice (some ⟨b, 0, none⟩) (ts0 ++ [t]).length cc)))) ∧
    (¬ ((tokAt (ts0 ++ [t]) (ts0.length)).kind = (1 : Int)) → (((tokAt (ts0 ++ [t]) (ts0.length)).kind = (2 : Int)) → ((((m : Nat) : Int) = ((i : Nat) : Int)) → Does Tryd.prog 43 [.pointer (some ⟨g, 0, none⟩), .int .i64 ((m : Nat) : Int)] B (Sc g s (i) (ts0 ++ [t]) (.st (.slice (some ⟨b, 0, none⟩) (ts0 ++ [t]).length cc))) fun u S1 => u = .bool true ∧ S1 = Sc g s (i) (ts0 ++ [t]) (.st (.slice (some ⟨b, 0, none⟩) (ts0 ++ [t]).length cc))) ∧
    (¬ (((m : Nat) : Int) = ((i : Nat) : Int)) → Does Tryd.prog 43 [.pointer (some ⟨g, 0, none⟩), .int .i64 ((m : Nat) : Int)] B (Sc g s (i) (ts0 ++ [t]) (.st (.slice (some ⟨b, 0, none⟩) (ts0 ++ [t]).length cc))) fun u S1 => u = .bool false ∧ S1 = Sc g s (i) (ts0 ++ [t]) (.st (.slice (some ⟨b, 0, none⟩) (ts0 ++ [t]).length cc)))) ∧
    (¬ ((tokAt (ts0 ++ [t]) (ts0.length)).kind = (2 : Int)) → Does Tryd.prog 43 [.pointer (some ⟨g, 0, none⟩), .int .i64 ((m : Nat) : Int)] B (Sc g s (i) (ts0 ++ [t]) (.st (.slice (some ⟨b, 0, none⟩) (ts0 ++ [t]).length cc))) fun u S1 => u = .bool false ∧ S1 = Sc g s (i) (ts0 ++ [t]) (.st (.slice (some ⟨b, 0, none⟩) (ts0 ++ [t]).length cc))))) ∧
    (¬ ((0 : Int) < (((ts0 ++ [t]).length : Nat) : Int)) → Does Tryd.prog 43 [.pointer (some ⟨g, 0, none⟩), .int .i64 ((m : Nat) : Int)] B (Sc g s (i) (ts0 ++ [t]) (.st (.slice (some ⟨b, 0, none⟩) (ts0 ++ [t]).length cc))) fun u S1 => u = .bool false ∧ S1 = Sc g s (i) (ts0 ++ [t]) (.st (.slice (some ⟨b, 0, none⟩) (ts0 ++ [t]).length cc))) := by
  letI := memEnv (openS_V B g i b cc s ts0 t m) B (openS_M B g i b cc s ts0 t m)
  have hV : (openS_V B g i b cc s ts0 t m).all rawOne = true := (oc rfl (oc rfl (oc rfl (oc rfl (oc rfl (oc rfl (oc rfl (oc rfl (oc rfl (oc rfl (oc rfl rfl)))))))))))
  have f0 := len_snoc ts0 t
  have r0 : RuleOk Tryd.prog ⟨.nck, [.sx 1 0], none, none, .sx 1 0⟩ := rule_nck (mm hV 0)
  have r1 : RuleOk Tryd.prog ⟨.fldA 43 2, [.sx 1 0], none, none, .sx 1 5⟩ := rule_fld (d := 2) 2 (by kernel_rfl) (mm hV 0) rfl (mm hV 5)
  have r2 : RuleOk Tryd.prog ⟨.load 24, [.sx 1 5], some 0, none, .sx 1 3⟩ := mld (j := 0) (o := 2) (by kernel_rfl) rfl rfl rfl (mm hV 5) (mm hV 3)
  have r3 : RuleOk Tryd.prog ⟨.len 24, [.sx 1 3], none, none, .sx 1 6⟩ := rule_lenS Tryd.underlying24 (mm hV 3) (mm hV 6)
  refine ⟨fun h0 => ?_, fun h0 => ?_⟩
  ·
   have r4 : RuleOk Tryd.prog ⟨.bin .gtr 3, [.sx 1 6, .int .i64 0], none, none, .bool true⟩ := rule_cmp _ (mm hV 6) (Is.int _ _) (cmp_gtrT (by omega))
   have r5 : RuleOk Tryd.prog ⟨.bin .sub 3, [.sx 1 6, .int .i64 1], none, none, .sx 1 7⟩ := rule_sub _ (mm hV 6) (Is.int _ _) (mm hV 7) (by omega) (by omega) (by omega)
   have r6 : RuleOk Tryd.prog ⟨.idxA 24, [.sx 1 3, .sx 1 7], none, none, .sx 1 8⟩ := rule_idxA (sz := 6) (j := ts0.length) Tryd.underlying24 (by kernel_rfl) (mm hV 3) (mm hV 7) (by first | omega | (simp; done) | (simp; omega)) rfl (mm hV 8)
   have r7 : RuleOk Tryd.prog ⟨.fldA 33 0, [.sx 1 8], none, none, .sx 1 8⟩ := rule_fld (d := 0) 0 (by kernel_rfl) (mm hV 8) rfl (mm hV 8)
   have r8 : RuleOk Tryd.prog ⟨.load 3, [.sx 1 8], some 0, none, .sx 1 9⟩ := mldr (j := 0) (by kernel_rfl) rfl rfl (tok_at0 (by first | omega | (simp; done) | (simp; omega))) (mm hV 8) (mm hV 9)
   refine ⟨fun h1 => ?_, fun h1 => ?_⟩
   ·
    have r9 : RuleOk Tryd.prog ⟨.bin .eql 3, [.sx 1 9, .int .i64 1], none, none, .bool true⟩ := rule_cmp _ (mm hV 9) (Is.int _ _) (cmp_eqlT (by omega))
    have r10 : RuleOk Tryd.prog ⟨.fldA 43 1, [.sx 1 0], none, none, .sx 1 10⟩ := rule_fld (d := 1) 1 (by kernel_rfl) (mm hV 0) rfl (mm hV 10)
    have r11 : RuleOk Tryd.prog ⟨.load 3, [.sx 1 10], some 0, none, .sx 1 2⟩ := mld (j := 0) (o := 1) (by kernel_rfl) rfl rfl rfl (mm hV 10) (mm hV 2)
    refine ⟨fun h2 => ?_, fun h2 => ?_⟩
    ·
     have r12 : RuleOk Tryd.prog ⟨.bin .eql 3, [.sx 1 4, .sx 1 2], none, none, .bool true⟩ := rule_cmp _ (mm hV 4) (mm hV 2) (cmp_eqlT (by omega))
     exact (does_run (vals := (openS_V B g i b cc s ts0 t m)) (L := (openS_M B g i b cc s ts0 t m)) (fs := []) (f := 43) (avs := [.sx 1 0, .sx 1 4]) (us := [.pointer (some ⟨g, 0, none⟩), .int .i64 ((m : Nat) : Int)]) (v := .bool true) (k := 0) (rl_c r0 (rl_c r1 (rl_c r2 (rl_c r3 (rl_c r4 (rl_c r5 (rl_c r6 (rl_c r7 (rl_c r8 (rl_c r9 (rl_c r10 (rl_c r11 (rl_c r12 rl_n))))))))))))) cl_n rfl rfl (.cons (mm hV 0) (.cons (mm hV 4) .nil)) (by kernel_rfl) rfl (Is.bool _)).mono (by rintro u S1 ⟨rfl, vs, hl, rfl⟩; obtain ⟨rfl⟩ := len_0 hl; exact ⟨rfl, rfl⟩)
    ·
     have r12 : RuleOk Tryd.prog ⟨.bin .eql 3, [.sx 1 4, .sx 1 2], none, none, .bool false⟩ := rule_cmp _ (mm hV 4) (mm hV 2) (cmp_eqlF (by omega))
     exact (does_run (vals := (openS_V B g i b cc s ts0 t m)) (L := (openS_M B g i b cc s ts0 t m)) (fs := []) (f := 43) (avs := [.sx 1 0, .sx 1 4]) (us := [.pointer (some ⟨g, 0, none⟩), .int .i64 ((m : Nat) : Int)]) (v := .bool false) (k := 0) (rl_c r0 (rl_c r1 (rl_c r2 (rl_c r3 (rl_c r4 (rl_c r5 (rl_c r6 (rl_c r7 (rl_c r8 (rl_c r9 (rl_c r10 (rl_c r11 (rl_c r12 rl_n))))))))))))) cl_n rfl rfl (.cons (mm hV 0) (.cons (mm hV 4) .nil)) (by kernel_rfl) rfl (Is.bool _)).mono (by rintro u S1 ⟨rfl, vs, hl, rfl⟩; obtain ⟨rfl⟩ := len_0 hl; exact ⟨rfl, rfl⟩)
   ·
    have r9 : RuleOk Tryd.prog ⟨.bin .eql 3, [.sx 1 9, .int .i64 1], none, none, .bool false⟩ := rule_cmp _ (mm hV 9) (Is.int _ _) (cmp_eqlF (by omega))
    refine ⟨fun h2 => ?_, fun h2 => ?_⟩
    ·
     have r10 : RuleOk Tryd.prog ⟨.bin .eql 3, [.sx 1 9, .int .i64 2], none, none, .bool true⟩ := rule_cmp _ (mm hV 9) (Is.int _ _) (cmp_eqlT (by omega))
     have r11 : RuleOk Tryd.prog ⟨.fldA 43 1, [.sx 1 0], none, none, .sx 1 10⟩ := rule_fld (d := 1) 1 (by kernel_rfl) (mm hV 0) rfl (mm hV 10)
     have r12 : RuleOk Tryd.prog ⟨.load 3, [.sx 1 10], some 0, none, .sx 1 2⟩ := mld (j := 0) (o := 1) (by kernel_rfl) rfl rfl rfl (mm hV 10) (mm hV 2)
     refine ⟨fun h3 => ?_, fun h3 => ?_⟩
     ·
      have r13 : RuleOk Tryd.prog ⟨.bin .eql 3, [.sx 1 4, .sx 1 2], none, none, .bool true⟩ := rule_cmp _ (mm hV 4) (mm hV 2) (cmp_eqlT (by omega))
      exact (does_run (vals := (openS_V B g i b cc s ts0 t m)) (L := (openS_M B g i b cc s ts0 t m)) (fs := []) (f := 43) (avs := [.sx 1 0, .sx 1 4]) (us := [.pointer (some ⟨g, 0, none⟩), .int .i64 ((m : Nat) : Int)]) (v := .bool true) (k := 0) (rl_c r0 (rl_c r1 (rl_c r2 (rl_c r3 (rl_c r4 (rl_c r5 (rl_c r6 (rl_c r7 (rl_c r8 (rl_c r9 (rl_c r10 (rl_c r11 (rl_c r12 (rl_c r13 rl_n)))))))))))))) cl_n rfl rfl (.cons (mm hV 0) (.cons (mm hV 4) .nil)) (by kernel_rfl) rfl (Is.bool _)).mono (by rintro u S1 ⟨rfl, vs, hl, rfl⟩; obtain ⟨rfl⟩ := len_0 hl; exact ⟨rfl, rfl⟩)
     ·
      have r13 : RuleOk Tryd.prog ⟨.bin .eql 3, [.sx 1 4, .sx 1 2], none, none, .bool false⟩ := rule_cmp _ (mm hV 4) (mm hV 2) (cmp_eqlF (by omega))
      exact (does_run (vals := (openS_V B g i b cc s ts0 t m)) (L := (openS_M B g i b cc s ts0 t m)) (fs := []) (f := 43) (avs := [.sx 1 0, .sx 1 4]) (us := [.pointer (some ⟨g, 0, none⟩), .int .i64 ((m : Nat) : Int)]) (v := .bool false) (k := 0) (rl_c r0 (rl_c r1 (rl_c r2 (rl_c r3 (rl_c r4 (rl_c r5 (rl_c r6 (rl_c r7 (rl_c r8 (rl_c r9 (rl_c r10 (rl_c r11 (rl_c r12 (rl_c r13 rl_n)))))))))))))) cl_n rfl rfl (.cons (mm hV 0) (.cons (mm hV 4) .nil)) (by kernel_rfl) rfl (Is.bool _)).mono (by rintro u S1 ⟨rfl, vs, hl, rfl⟩; obtain ⟨rfl⟩ := len_0 hl; exact ⟨rfl, rfl⟩)
    ·
     have r10 : RuleOk Tryd.prog ⟨.bin .eql 3, [.sx 1 9, .int .i64 2], none, none, .bool false⟩ := rule_cmp _ (mm hV 9) (Is.int _ _) (cmp_eqlF (by omega))
     exact (does_run (vals := (openS_V B g i b cc s ts0 t m)) (L := (openS_M B g i b cc s ts0 t m)) (fs := []) (f := 43) (avs := [.sx 1 0, .sx 1 4]) (us := [.pointer (some ⟨g, 0, none⟩), .int .i64 ((m : Nat) : Int)]) (v := .bool false) (k := 0) (rl_c r0 (rl_c r1 (rl_c r2 (rl_c r3 (rl_c r4 (rl_c r5 (rl_c r6 (rl_c r7 (rl_c r8 (rl_c r9 (rl_c r10 rl_n))))))))))) cl_n rfl rfl (.cons (mm hV 0) (.cons (mm hV 4) .nil)) (by kernel_rfl) rfl (Is.bool _)).mono (by rintro u S1 ⟨rfl, vs, hl, rfl⟩; obtain ⟨rfl⟩ := len_0 hl; exact ⟨rfl, rfl⟩)
  ·
   have r4 : RuleOk Tryd.prog ⟨.bin .gtr 3, [.sx 1 6, .int .i64 0], none, none, .bool false⟩ := rule_cmp _ (mm hV 6) (Is.int _ _) (cmp_gtrF (by omega))
   exact (does_run (vals := (openS_V B g i b cc s ts0 t m)) (L := (openS_M B g i b cc s ts0 t m)) (fs := []) (f := 43) (avs := [.sx 1 0, .sx 1 4]) (us := [.pointer (some ⟨g, 0, none⟩), .int .i64 ((m : Nat) : Int)]) (v := .bool false) (k := 0) (rl_c r0 (rl_c r1 (rl_c r2 (rl_c r3 (rl_c r4 rl_n))))) cl_n rfl rfl (.cons (mm hV 0) (.cons (mm hV 4) .nil)) (by kernel_rfl) rfl (Is.bool _)).mono (by rintro u S1 ⟨rfl, vs, hl, rfl⟩; obtain ⟨rfl⟩ := len_0 hl; exact ⟨rfl, rfl⟩)
end Go.Proofs.YtenpnejkgopghaaDoor.Tok
