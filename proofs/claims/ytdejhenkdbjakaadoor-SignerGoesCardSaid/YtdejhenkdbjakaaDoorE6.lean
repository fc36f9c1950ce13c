/- The chapter's examples (law17) as the kernel reckons them: what it reckons. -/
import Derived.Test.YtdejhenkdbjakaaDoorE1
import Derived.Test.YtdejhenkdbjakaaDoorS3
set_option linter.unusedVariables false
set_option linter.unusedSimpArgs false
namespace Go.Proofs.YtdejhenkdbjakaaDoor
def q5L : List Nat := [93, 92, 92, 92, 92, 92, 92, 92, 92, 92, 92, 92, 92, 92, 92, 92, 92, 92, 92, 92, 92, 92, 92, 92, 92, 92, 92, 92, 92, 92, 92, 92, 92, 92, 92, 92, 92, 92, 92, 92, 92, 92, 92, 92, 92, 92, 92, 92, 92, 92, 92, 92, 92, 92, 92, 92, 92, 92, 92, 92, 92, 92, 92, 92]
def q3L : List Nat := [55, 54, 54, 54, 54, 54, 54, 54, 54, 54, 54, 54, 54, 54, 54, 54, 54, 54, 54, 54, 54, 54, 54, 54, 54, 54, 54, 54, 54, 54, 54, 54, 54, 54, 54, 54, 54, 54, 54, 54, 54, 54, 54, 54, 54, 54, 54, 54, 54, 54, 54, 54, 54, 54, 54, 54, 54, 54, 54, 54, 54, 54, 54, 54]
theorem q5L_eq : padK (kl (oneF 1)) 92 = q5L := by decide +kernel
theorem q3L_eq : padK (kl (oneF 1)) 54 = q3L := by decide +kernel
def sdL : List Nat := [79, 39, 14, 142, 0, 72, 254, 148, 82, 67, 176, 207, 206, 165, 33, 202, 4, 115, 200, 207, 202, 99, 85, 168, 165, 136, 108, 175, 223, 248, 65, 104]
def k5L : List Nat := [19, 123, 82, 210, 92, 20, 162, 200, 14, 31, 236, 147, 146, 249, 125, 150, 88, 47, 148, 147, 150, 63, 9, 244, 249, 212, 48, 243, 131, 164, 29, 52, 92, 92, 92, 92, 92, 92, 92, 92, 92, 92, 92, 92, 92, 92, 92, 92, 92, 92, 92, 92, 92, 92, 92, 92, 92, 92, 92, 92, 92, 92, 92, 92]
def k3L : List Nat := [121, 17, 56, 184, 54, 126, 200, 162, 100, 117, 134, 249, 248, 147, 23, 252, 50, 69, 254, 249, 252, 85, 99, 158, 147, 190, 90, 153, 233, 206, 119, 94, 54, 54, 54, 54, 54, 54, 54, 54, 54, 54, 54, 54, 54, 54, 54, 54, 54, 54, 54, 54, 54, 54, 54, 54, 54, 54, 54, 54, 54, 54, 54, 54]
def t3L : List Nat := [149, 188, 12, 128, 109, 156, 169, 27, 228, 124, 207, 131, 192, 124, 148, 138, 13, 92, 148, 122, 17, 15, 43, 138, 160, 223, 30, 38, 83, 36, 176, 211]
def t4L : List Nat := [128, 95, 181, 172, 15, 251, 53, 74, 131, 117, 83, 88, 226, 40, 3, 133, 95, 16, 61, 185, 184, 126, 159, 215, 210, 19, 203, 8, 21, 128, 49, 149]
def dAL : List Nat := [128, 163, 166, 104, 182, 38, 23, 145, 96, 103, 37, 156, 133, 51, 179, 134, 27, 25, 94, 163, 204, 252, 250, 78, 68, 129, 114, 47, 167, 1, 216, 226]
def dBL : List Nat := [72, 73, 186, 173, 142, 49, 153, 142, 180, 91, 188, 21, 167, 25, 130, 30, 28, 170, 117, 48, 67, 100, 125, 233, 221, 58, 115, 71, 201, 11, 202, 20]
def dA : List Nat := [8, 0, 10, 3, 10, 6, 6, 8, 11, 6, 2, 6, 1, 7, 9, 1, 6, 0, 6, 7, 2, 5, 9, 12, 8, 5, 3, 3, 11, 3, 8, 6, 1, 11, 1, 9, 5, 14, 10, 3, 12, 12, 15, 12, 15, 10, 4, 14, 4, 4, 8, 1, 7, 2, 2, 15, 10, 7, 0, 1, 13, 8, 14, 2, 2, 0, 14]
def dB : List Nat := [4, 8, 4, 9, 11, 10, 10, 13, 8, 14, 3, 1, 9, 9, 8, 14, 11, 4, 5, 11, 11, 12, 1, 5, 10, 7, 1, 9, 8, 2, 1, 14, 1, 12, 10, 10, 7, 5, 3, 0, 4, 3, 6, 4, 7, 13, 14, 9, 13, 13, 3, 10, 7, 3, 4, 7, 12, 9, 0, 11, 12, 10, 1, 4, 1, 14, 6]
theorem sign_info : infoL sSign [highL 3 4] ++ [1] = [4, 115, 105, 103, 110, 0, 0, 0, 4, 0, 0, 0, 3, 1] := by decide +kernel
theorem sd_num : Nat.beq (derE q5L q3L [4, 115, 105, 103, 110, 0, 0, 0, 4, 0, 0, 0, 3, 1]) 0x4f270e8e0048fe945243b0cfcea521ca0473c8cfca6355a8a5886cafdff84168 = true := by decide +kernel
theorem sd_high : highL 0x4f270e8e0048fe945243b0cfcea521ca0473c8cfca6355a8a5886cafdff84168 32 = sdL := by decide +kernel
theorem sd_eq : kl (sdF (oneF 1) 3) = sdL := by
  unfold sdF derK
  rw [sign_info, ← derE_spec q5L q3L _ (kl (oneF 1)) q5L_eq q3L_eq, Nat.eq_of_beq_eq_true sd_num, sd_high]
theorem k5L_eq : padK sdL 92 = k5L := by decide +kernel
theorem k3L_eq : padK sdL 54 = k3L := by decide +kernel
theorem t3_num : Nat.beq (shaE ([116, 97, 103] ++ highL 3 4)) 0x95bc0c806d9ca91be47ccf83c07c948a0d5c947a110f2b8aa0df1e265324b0d3 = true := by decide +kernel
theorem t3_high : highL 0x95bc0c806d9ca91be47ccf83c07c948a0d5c947a110f2b8aa0df1e265324b0d3 32 = t3L := by decide +kernel
theorem t3_eq : kl (tgF 3) = t3L := by
  unfold tgF
  rw [← shaE_bytes, Nat.eq_of_beq_eq_true t3_num, t3_high]
theorem t4_num : Nat.beq (shaE ([116, 97, 103] ++ highL 4 4)) 0x805fb5ac0ffb354a83755358e22803855f103db9b87e9fd7d213cb0815803195 = true := by decide +kernel
theorem t4_high : highL 0x805fb5ac0ffb354a83755358e22803855f103db9b87e9fd7d213cb0815803195 32 = t4L := by decide +kernel
theorem t4_eq : kl (tgF 4) = t4L := by
  unfold tgF
  rw [← shaE_bytes, Nat.eq_of_beq_eq_true t4_num, t4_high]
theorem dA_num : Nat.beq (shaE ([99, 111, 114, 101] ++ [97])) 0x80a3a668b62617916067259c8533b3861b195ea3ccfcfa4e4481722fa701d8e2 = true := by decide +kernel
theorem dA_high : highL 0x80a3a668b62617916067259c8533b3861b195ea3ccfcfa4e4481722fa701d8e2 32 = dAL := by decide +kernel
theorem dA_eq : kl (dgF [97]) = dAL := by
  unfold dgF
  rw [← shaE_bytes, Nat.eq_of_beq_eq_true dA_num, dA_high]
theorem dB_num : Nat.beq (shaE ([99, 111, 114, 101] ++ [98])) 0x4849baad8e31998eb45bbc15a719821e1caa753043647de9dd3a7347c90bca14 = true := by decide +kernel
theorem dB_high : highL 0x4849baad8e31998eb45bbc15a719821e1caa753043647de9dd3a7347c90bca14 32 = dBL := by decide +kernel
theorem dB_eq : kl (dgF [98]) = dBL := by
  unfold dgF
  rw [← shaE_bytes, Nat.eq_of_beq_eq_true dB_num, dB_high]
theorem digB_congr {f g : Nat → Nat} : ∀ k, (∀ i, i < k → f i = g i) → digB f k = digB g k
  | 0, _ => rfl
  | k + 1, h => by rw [digB, digB, digB_congr k fun i hi => h i (by omega), h k (by omega)]
theorem digL_kl {f : Nat → Nat} {l : List Nat} (h : kl f = l) : digL f = digL fun i => l.getD i 0 := by
  have e : digB f 32 = digB (fun i => l.getD i 0) 32 := digB_congr 32 fun i hi => by
    rw [← h, List.getD_eq_getElem?_getD]
    have : (kl f)[i]? = some (f i) := by unfold kl; rw [List.getElem?_map, List.getElem?_range hi]; rfl
    rw [this, Option.getD_some]
  unfold digL
  rw [e]
theorem dA_dig : digL (dgF [97]) = dA := (digL_kl dA_eq).trans (by decide +kernel)
theorem dB_dig : digL (dgF [98]) = dB := (digL_kl dB_eq).trans (by decide +kernel)
def infoQ (k : Nat) : List Nat := 5 :: 99 :: 104 :: 97 :: 105 :: 110 :: 0 :: 0 :: 0 :: 2 :: (highL k 2 ++ [1])
theorem infoQ_eq (k : Nat) (h : k < 18446744073709551616) : infoL sChain [hb (k : Int) 2] ++ [1] = infoQ k := by
  have e : hb (k : Int) 2 = highL k 2 := by unfold hb; rw [u64n_nat h]
  have e2 : highL 2 4 = [0, 0, 0, 2] := by decide
  unfold infoL infoQ sChain
  rw [e]
  simp only [List.map_cons, List.map_nil, List.flatten_cons, List.flatten_nil, List.append_nil, highL_len, e2]
  rfl
noncomputable def bgQ (k : Nat) : Nat := derE k5L k3L (infoQ k)
theorem bgQ_spec (k : Nat) (h : k < 18446744073709551616) : highL (bgQ k) 32 = kl (begF (sdF (oneF 1) 3) k) := by
  have e : begF (sdF (oneF 1) 3) (k : Int) = macK sdL (infoQ k) := by
    unfold begF derK
    rw [infoQ_eq k h, sd_eq]
  rw [e]
  exact derE_spec k5L k3L (infoQ k) sdL k5L_eq k3L_eq
def sN : List Nat := [0xbe4fb2ec2ee788fe5c6c7bbb2acc467a85315ecefe9191a502836b4d97bc65f9, 0x12083e7fb5c78439cc50e7278e33c2aa0f98d77496e050fc4bdb3cce44ec8cd6, 0xbfdea8786bb156c7f1006d888d3dfe27b291a8b1750c0bd00de91a0088416bdd, 0x5e61d85a2f94a5ca9e093c696420221e161ffb63fa03fa2a25f49e24e31f1933, 0x737c1c80f7f5ff1f7f590606a6c58a1b5c52903fbee17ad744b14db607beb486, 0x36d6596f666a1f640fd5f2166ea1c82e5195805453f68191cf5a99d0aedcd657, 0xada2a2c636018923b16b01564ef77e9025c56e93b8d7a95b6d682c3a7654ef97, 0x2448e505e47855019913d3aa8e273b6ab9f7cd69765ccf030112a3bee20cc063, 0xca74bcd84001d35f3ab36867be636e33441489be1b89d4516b73315062173fdd, 0xf145077c4b5df891fb7129d56a54ebe13e29a947cfb0170219b1399455e00214, 0x141a450b8fce9fe1715932c415336ad9d3b8b5b487010b57b97e8cf31bf87f2d, 0x7d1a82c2f7180ab10b65954f416005bb55762f3cdbea33daa030123b6a4a4eef, 0x4ed45a041bc496cee4b7c28a479cd0577d9f1dc5c769b58a81e84cda9a38de26, 0x894de11bdc93ded808a686cea57b8a003beb2e0b8daef608067731a37a8b99f0, 0xa3022d2aae5d6a6719a869e27a82faa4fde346f5bdd9bb31d75e666e342ce253, 0xee8d1eb2c8782ad08f51d7e175e45d05f6498b20d134b8f364c5affce910d364, 0x91f8050ab62266d45ce83eb28f22460d3fbfb9ac9f0db3fedcd08e9b42d16831, 0xe6531ffb06d7e21866502e1638a95bd965efe8f6c0369e6432ce1be9fc511ee8, 0xe74a9dd4c72e151a7558d67d232cc34ae542bfdc14801c5416b85fa486a05897, 0x1843452fb3d01e3f4d3ad776200e316ca2aac1b176c8406da02a4464324795b9, 0x8798805e81786f31aca63eddb4e0caf9477052e5b31f6775ac960bb374f67f3d, 0x8ddeb3b7dfa3badce8db37f3f36d37ed28615acb1c618bfecef22940d9a069a3, 0x8fef9d439386b56a94890b11045584f2edf04946590ffbfd16a20654d12d61bf, 0x0a97514b2f35e93dedf77f9d8f3cab86c2c98865804593ee293e22bf2137f980, 0x5fe2968c6413e4ef94df681035fa01798bb0ecc2ab472da7d834a2aacf38c74f, 0x2962eacef0d7a92cb166ba041219c64cc50f17d5edf82df3cfe809a6a2ff0b53, 0x0d3a63564a064ad90027d0dcbfab77f1cd9a2e192863358933b58d5a8658e009, 0x1fc5f3dc7f2aec9aea427b45998721f9741607cf73438d72241d569bfc2764e7, 0x753edf4f46d3db01161394c59cabf1f42adbeedffdf78f743580cd8e627b266b, 0x1320045ffef150e6ee90c262bc4ff88563e8efc3ab0d977058625cb83a8f13fc, 0x72db9341e2ef85d905bcea15cc2107d73e655778aa2cee959a06ea893bea9dcd, 0x3390c845d1f66607bdb4176ee17f9bfb48a6736ecc226679c1dbbac2699ef6ae, 0xc1619237323f92c9afd0482c0e69af0375a037cc2e0997ee20b4143b1feeb1d6, 0xa2c70ee4d52c90cdb8faab5638d1176fdf6189f27468b6c37f97d02cfc46d0e3, 0x1abdee10687bd36c8f31c7f77b0d0a72232d31daf098df6e209870c6237cdc28, 0x5e411e880c23104156b06ee0287531e5cf3303cabfab911da66784bca34c56c9, 0x0f7e8134f2c9b8253b2c0195ff8f8169dfba1ae2ae5fbdfde132458ce4dd5335, 0x97e4662a057cce44f9d7df2f91a3c33012e2c23825760d6aab6e9056880f2066, 0xa38ca60f5a0d4e390c0c78c75a6913dbd91ea5ef674090572ccc92f36fe7419b, 0x39e5587e7ace35dbedba3a2511d505b3fb3410fb103d482507a38aaaf85891f2, 0x759afa5c4c871771dbbb4600594a5909ac0edb53b381a7f88e58b87dcdb9d7e1, 0x1ec9c853bc38affafc51806b233c99c3beb917d483c9fa14a2094f45f3b3b097, 0x5afb3a862efe227f3a63801735536d9ea0ad28b2d823e9a927582bfc1bd8c9c9, 0xace0fc252543eff293a0a3e00890447ad62c7d9676eb20d83d54a0dc6d7a7197, 0x30601ad54c879b69b875376ad7319da685b6e5e094f04cef21a3f13c6a151411, 0xa253a274d0d73af6a6cdc78aa16bb09e0c7e43575611fae6cbe34cdd0865d090, 0x506de7e069c9fda9c760cfb20cd30bb169cdec8186cf1cb5fd188022e65bf11f, 0xfb0d84177306df4e3a37bc6900275fe1acd3495b2b7252d25f7eb6a929ca0894, 0x93e609de95b724677d57be53f9727addb733a2bb742b491a5ba05ca18473ba6f, 0x5ff8a1f533ee716e1aa30d6bea282490e1addbe1cbb19b495f41cff96005a487, 0xeef27ec0df1b839b7afa1c37fffae3cb39ebcfef001fcec96317b74334bc240a, 0xaa04cb7fd59685f645a91f236c57bacd1e73db6ad2b5be4c9e00c4155f056e9c, 0x493771f04a86a426b9c49be1b62a776e6b7a53f6bcc57b8972ab71c18c827bac, 0x4f5c7d4c0f0c39ea9685b52c6551845451bc24c47d047f889e4d2b0dbd326735, 0x36c2c6c4fae598a820ee79233bd56263881a9f35c95f411a46e8bc59ea6f6da1, 0xfbc5a5e02ae5834aa1c2ae7fca2adccf950b3f8014bac99075d1996d32eed0a2, 0x3f5d2c31e472826d03cc399add8943e5d0a1dbe1836325f7f74415b475d8d55d, 0x9a6177c35eb0c85d8c603e44c07c616576ec0c105cdea514f73147777a3da96c, 0xfc6b0a3ef9105d188f5ff5e81dd7160daf312165ec28033fc8ccd12b0807c7cc, 0xd4762e08919054755d671f7d8bbfadbcf193d315cba93195836515f43aa33e2f, 0x6c08d896593049ed17c001a1daf8b1942c9852708c4f9a5097d323f3ba9954bc, 0x8effbadc1aa1b6b074a23d8235215b9abc326061d7ead822c168e1714bf922db, 0x29c26885a736f956a244d3d0db1acb7e91e2dfa16e9a99fd47c742053c952e47, 0x2a18d9fcf78fd55477d09866b19d5a190fb54fbbc5fffcbcbd684970b699f5cf, 0xb4aa59eb09f7fc322d831dc7771cba347339aabae4403d400150144214b17d5f, 0xc5acc5985fdc42d3685800934db80ed4778a38e97fbd7da15a91b4bf13d7acb3, 0xdcc9cb7fae8d7840007c720af38c75e31139d91324f36ee897afb1aad9e6fcd8]
def pN : List Nat := [0xcf31bfd265be8b7d67a20e6624599803a163ef91333308481b20cf6d3df133fc, 0x910d04373aa4aec2c06e2b8780ad66444d3e57e2c091bf619d8d7cfb643cd35c, 0x4e417b3d522e9d332b2ca73f1b4869bc6283e65be13e341c3f1eb742821f6ed9, 0xcdbfe47c7fc3d886d85d12f56b52aee86088eec52325cb6f904b0e36d4d44f15, 0x02c22f7dd3f29d0db8311e6320a3e97ac1d00c4016835220933bc8a175c013e0, 0x378c407de13bf375fd798fbdfd0ca05eedfad52e5925604425beee08dc15eac1, 0x14d033c86378ce9498d1805c207d8bd1ef46195a11eb57d44342e91b277413fc, 0x678fa56562303f5b82718a16f3ab7e0198ec6f0ffc28670738d1acd09992d60d, 0x66639f7bf4679cc6b5e0ecd80a5bf62f702f10268bf69bf023c2001a89f80a3f, 0xff8fb0408aa104d71b3a13bcd3f5a460fb9409e081c71ce5bfcb083534893201, 0xf18200387d0b4fbfa3884180b054c6bb040cdeb99929ef162ead23c1d2c1bcf6, 0x043f382738a72d2eb03ce9f2ee358058e6eff0ae74a6dd938dd8344a001758ca, 0xc18580411cbba3bf1b3633d9601b0799f442585b34452a22e188866b9e6e45d7, 0x358d010843c4b15bed8a466f96ff188d1503de795cfe8900a81dd3fb6b74b8d7, 0x4f3b85055a21768587a9b29164fb5bd54ec42a892a321d5cea65f8e5676e3be0, 0x708489e35bf403c96b15d41696f6aa2ebdf045a53278f90db0eda165a7db7991, 0x02ee57f2423b21319de7a7cfe1af8b436bfa885eb93c014edc3baa82ae9e010d, 0x045667f71536d4e4014828e491a956081bf4efaecf759ca2e7cd9f0d8d615d11, 0xa88c8c6439df822b7744989457048999905f1508ed9886a6b0134b9c1190f5b1, 0xccce042707df6141370a5be288d80cd877bf8422b7b9278094c9a62dbe339ae3, 0xf91a0a58e3e1c65d0c6f9283c2ab8a0465f19bff5ddf828ca9afd72e09018646, 0x6d5681ab8d137b468dca86c6b1a515dcf7af8075a8d3a62a75c4cabf87aa0018, 0x3f930e413c95b2a71894355acc57b7b9ea6ab58bf7583fe5db38fe02a26cd762, 0x15ea7c267e7a79bbab853b6be745390f391767fcb2a1709f5baa1c48bb091ef3, 0xcffc260d4598df9693242c19b46d861aa776a9c5035502b04f9db2eadcf623d5, 0x3cc8d411920207dbee2be74c0a36990a4d7efef31352aaeea3b74dd2bbbe60a3, 0xe3d3e6fbb89e3c728cbf12f3284cab14bbab507ca9931c5c1f871c4655f89100, 0xccd4acbeb0e1b40ede611ad380513641d37f36e55934aa0b69895c17052e4901, 0x65449049720a1f48132dc5f21b97a5b37f6db4587c34f706d44e4090ac2fd1e1, 0x5e002d9703100d8c62bbf6a58d455002963d55469cdf316fef90020bea1e640d, 0x6417189c6af0928183354ec7a4b80c326cf8f1b5cd16918a33ec287c081c26d7, 0xea30a108f5fec19394ad03f2b14a529b8508d6debed76439f2ad20457c08dc13, 0x304b9a032a4e50ac85262dbca16de5e0c7bd311ad35700a6d85f6b533f4aaa05, 0x1b4d745f83c12392c9c738bf92c78d744a08676d81838b33e0bf17b97d5a4700, 0x10ac72f8a83e747c83db566a36095e20ac5d404a2726bc48862e4dd39f65c4e3, 0x6d819e697005f4004854028f92f40f1afc1d3837b2b846bd5c32055873497e69, 0x64940a3214d9b51d5a0a35be8008eb2f9fef511ee0999d63042e94a3fbcaf929, 0x3503215d4cdd5dfad03121ef4e27119d9ef66aa7fa89c90f598cf4114261a58f, 0x9ade3f5041d2253f7e7c73b07319792d12ab0cec56f0419c7820a22cbaf3e25e, 0x4c70a3e72a6ce2ee17c3d611d891cd808810b1df5574cff32c3edb8a7ade7560, 0x917e7a7882ffc422932fb60fdb4cbd3a68f8982d8784c0a51d90e00da5c7fdcb, 0x5f0e98818cdbb77d07a52dbe0e32f81e667f253f9cfdc25a19cda54f7ada0ff6, 0x5afb3a862efe227f3a63801735536d9ea0ad28b2d823e9a927582bfc1bd8c9c9, 0xd2b1d3e4c38f06c76558e787eefd76221cdee60f5808128512c08af2e7422288, 0x30601ad54c879b69b875376ad7319da685b6e5e094f04cef21a3f13c6a151411, 0x5b43ae5a545439f7da5f26a82184ad3ab2c1bb718ffbcca1c2c0d63ad79cf8d1, 0x1dfbae06972051fb41e67ba1a070a2a343c59df5c6b98434a5a799e6e9c867f0, 0xbd7871c6e8398b8f70638d50a0572f054e5dc937dc8150e21b13db42bc5d59b2, 0xaee3b32c80a920c037845afda338b0d3ffca73efe85f027bc7e155975f156994, 0x00434c01d5605540d979d63a994631d62a894993228e49c84967325a9aa5e604, 0x232a584ebf0a14d7389fbff1489b3f07cb73e6842a3a0e01382b2571eef198de, 0x701b7df8600d2ee798bc0b1b29977704112eada6fd2735409159db198376ff0c, 0x703dd3a7fafa50aa0d7b3c71c34093e255e1c6d9added9d6dff013387f89de95, 0x4471d659271f77ddafb97a3a42b557ee2445c9df9abf9d8376242cc503679a99, 0x9188b1a10552dbb2a0616570c2d45ff945b9ed00223ba5c77d58bc84e544e8f3, 0xfbc5a5e02ae5834aa1c2ae7fca2adccf950b3f8014bac99075d1996d32eed0a2, 0x09fbd362c550106f0b67e0b6a6195ded3d0f46d720ce0ba25ee4d1b7fce30ac3, 0xa9c375d64d5ac44d13608ea5d8c923d356f55be2b3809c2f9f7d8bf49dacf543, 0x6b078a007c66ad8cc9e31d3b1e96c6437e7dd6444a299d5d8ba651f05e60a9a4, 0xd79358bd7f4dca5192c706d6e96bbfac85636077e880dca61ef4485dc0770cec, 0xa12e63a7b888e1605b4e4388e6019dcaffdd3a6c3f812272c510d4e4db261761, 0x6a65923c663e049893c426b9979ae233c51c25173909efd3d019fe64cc928fbb, 0x5591b840f73614c15e7b1fa77a356eef70505c2d5c07f2ce3b6a1dfb946ad676, 0xc24361dd7db2486a6cdaf0ad2b2996f29eed1c6454293f5685b749ac9a4106c4, 0xb02c422b5f6c08f8dadb64780932642124970dad76f28dc0a4d37ee1bfa1ae66, 0xfc884d551e5481c7a2a29f5dd5a8b780c76a26e6a73daf625744bfad8df7f8f1, 0x872346f163d7b7b3956120657e06e02b66a6d47971cef02a5f1139f093501dc2]
def vN : List Nat := [0x7fab722c7901cda2af1db1806310477d1c19867e117a3a75d187068b02adf682, 0x1ce80bd0038735b49a0bcea095fe53c51304b6737e7458d3d0c2bbb8b5398718, 0x91649d038a76873414469dfe99c8be0430bd6a34f72c765354799721f8491721, 0x29c9a4bcd66f2f059cb2c91ae6b282e17ac773690e5c03f2a49e1c66b8b07f4f, 0x5a927688c5aa8b32729fa82bbba3b664b9835eb95224d867bc03ec3c559e0e02, 0x1a8ba32251719a384be673cf4e26de3761adebd7f2103bdafd33bd0811a9445e, 0xec9e6123616c3628e667bfa14e7b920ae3a49ddd4cf845852a31c7fd70c541ac, 0xd9e2e7e5f25500bd3f5f27eacded15a1d0c7333dd0f576104e48e2ac57b45043, 0x30143586ef4bb310ad812c14720aa167e84834e66d84f81b70693f6a943db561, 0xa1ef1aaf5018c83c3a8678019643ca7fef6b99eeed8af4c57ac1f0376893d1b3, 0x1168576c64b6912bd254b98bcdebda43691702de9f9ba01a55b0009df8702e7e, 0x768b5bb9895c586b07a8b764c05a24a257dccd88332e0521ba0040e9825b2e6a, 0xb78ca5b30a641f31023a8c1a9163ef40c193d2b8cd989be963f8f7512716f72f, 0xa936b4ce1d8bce3f8ce5ce4b2e54ca257c4496adc95276728c94c5c64c6d7574, 0xd721b65067485212d57cd605d5d238c6b331693fa3504cf48397e9c663b08c6d, 0x0362629426b397caa9279f48174e80c4fd04167220b500020f0d4296e15952fd, 0x9b3835c0bd9c08fd65bc50b7e29c2ca78f2fae9f5a083f39fb40b82d4d994975, 0x130572dafac476239b714fab964d75d65cfc5af06ed508f7030611cc76e43667, 0x1718cd5a2d2eded9fdfec68a74fb1a991122634b62a0c4e35ddde658014d98cc, 0xf894403e3a2620dfaa22389b6edb90f688e322468b83c9800bb19938db248534, 0x53e93924df794a0cb3ea5be482a5773a6f5da10b564a9b1df99e6d8b5e6af64d, 0x76b62e7c770b5699e97e41f7d2821701f6c9e799cd008b4c3b4e0b1848c3a5ed, 0x322c26711750b027c7edc8760488fba3c991dc42a1a371dbaaddfbfbd4135a5b, 0xd1eeffc9373a2d71162ac016cc634ef4648e65879accc2741358ff06033ad853, 0xf8c0d2f837b0b71f999d262395ffd066e22115cb2fe7ff794859723e63b52312, 0x063e91f257da87ec887e53df861c617cfdaadd16150fed3e6ea163cd95038d9e, 0xe265ac81331f8f97de343ee6cabd98fad212a4ee1f429e2afe98b8d7a7ee4198, 0x99e898051d8cfde16214221703018295f476f4823b2d427bb4a16efcc8e7f0f1, 0xe37dfeb3d0360376a4448949e908023555c4252bbfdf0220f3b3a1ac56c00099, 0x86e922aec2fa502f907c5d6137fac3fd24f7ff7c54a44845e2b081eef854005c, 0xb0098bf9891c0394eef94f24494ae80173003131c2606f8f1c137ef28f22e83d, 0x43fb15fd975163d963a3c52aef69fb6a751b2b57ee121a5b17f2d610ac6f8c56, 0x304b9a032a4e50ac85262dbca16de5e0c7bd311ad35700a6d85f6b533f4aaa05, 0x46fb26ddb888597b1aa9fd5212bc330f7f514e6e6e806fc27ac18362205d3558, 0x40847557eef46ef844bcf695386d72294e34b9783da01dbb4be0164d0a47ce41, 0x6d144eaf6b216f8bd66a4316d00984d71ffe4665924e68afaa92d260b49be762, 0xca91463921d96506dd146f3da06c3238b0d6f0a7f67276f41be551cadc4eedfc, 0x1634aeedd990d73b7a738dcb178af0e521cb8f0953161ca5c2c3be3c27b0886d, 0xf78dbbc591049e81e8114b4cb0be988b943c850a52b167ad8b0633c4adc3bd99, 0x09d144ae5c5c346e974126a905332b436b3aeffecc941ab70ec2453bc2fca827, 0x18572919b4147ff5875a1bd848a4e135c1872f7f65b650f8ad4e12d35e33e1ff, 0x552f5d1115da98cfa32b675190983ede17dc4198054dd6477ea1fbbcd81a7e84, 0x8faec501da978a9b05f51ae8c9931df6629ed1391e7bd2b81d56f0bcfcafcb9c, 0x2c50613ee558fbf23d2b141b6c7c1e00bc840e89974253c011dc9ab62194764c, 0xa4c877eb5367adf2f978d859b3bd2f0eb654bdb6f65388faeabed47c00ad19c8, 0xa714ee9b58452ec6c104a39418e8bf1209e1bc910285d43b03828c622357d99a, 0x75db16b72168c1f67f410b5834d2bd2a06ab3600cd70aa613c9fa58df6598958, 0xc82bae6fbf28a9c55e258f8cd64053b077d58cd7a2a080a5748f6f1a58d73ab3, 0xac4754be6198195a54be6acc2bd203a973d21c87022c4202fb9ba8ba824e2348, 0x630deccace22f4b9357e7f9ca429a9a3af5433e695bce7eb9b3c378446c556f3, 0x34abb7074a4a5b446320c8ebf81df92fcb11e5c059e882c934291d647d27bf54, 0x97eb4cefc1160691fef3c50cbdd518bb3c0a98527d1a470c1bcb0e661a92e5bf, 0x703dd3a7fafa50aa0d7b3c71c34093e255e1c6d9added9d6dff013387f89de95, 0xab0f1e6524e1c3c3ec4b61863bc24cc24d5534faa734849825b696714051b32a, 0x863fcec3a2b80b06aeb782bc67e1ec267dadb038b31d9a4892d09c85f0588c27, 0x478192ad4a40c01c2809bb20412feabffa34c16c77e035ef44ea13cb3693d2fd, 0xe8fe6d3910109c35b9739b434774450fc6cd8beb7b3a22fcfd268f752391bf02, 0xfc55a0da07b976bc9f56485eccc1f7b3e55169c01a460526bde85f36e28bab4c, 0x6b078a007c66ad8cc9e31d3b1e96c6437e7dd6444a299d5d8ba651f05e60a9a4, 0x5456ae46d96587afdd3afa9d00f07e1cc30902a61b42567f4c5575639046eb6a, 0x2276d75f1dc6859527cd3a5966ab77b1ce2d6b2ae78f767a8c1e21bcb7ec69dc, 0x30b812a2b89739292eb2b2a928fc5a6c118f05fd6e85d463783a525920c6ff0c, 0x9d6c47fef05bedf753f542bd3ac9c9067a8008742851924ae6f84190ed7d11e4, 0xfac57262403dfd716ed20e0e45e2dc12230e4e6f56a559fa4dba27e1821570c5, 0x662c13f6b21329e88f5c622710c409160c9a1bcc97c5ce318b0c4d80a755781d, 0x04b6edafb84ca460a9565291da56256d972ed2cf9c93f36969ae8ebc5db6458e, 0x7b67c83a4c45eefdec3d8e860544f38a6dcd8b077a7534a47836b58d2f1916d6]
def qN : List Nat := [0x4512c6c58f5489f2504e55882d1cf58ff7cee807687e8bb5169b13595d794878, 0xc5cda91bdee06bd15258263146608bf953184e8e9432fdd84cac69081bd65d52, 0xeff892f4c8540b88c1ed35a9d56d326e0ce85a70d18190bd89e1c89f96a2f60e, 0xd9bee2015e1c13f4508d89f196dbc20fb7863abf12bab205f1dd548b190ace26, 0xeaaaf5caa8412b6a1b6aa8d850d9ae5d05d5c471fb556a35637de4b4eae907a8, 0x92e66c3dfb4ed65cb9915a6faed95678b1413953e28bce407a97f4911dfd0304, 0x00c3a032a498ba1a55efd7894896fd46cf23bb073553863d3d834333ebd89f1e, 0x1833b4ebdd27b1276933d1a38244dbbc933a20080aa8b1996bfa799e1b234ea8, 0xc3cd2b41e13a0d199c2245e14ed95180300fd71743352a6966753ac06a54d112, 0xf234e2fed653cbac08f9a119d00a601be767b783ce6782b1856835aed38f622d, 0x7c3bbc32d3c5deeee5c4b0103b77accafc56a6a2681ac57b63466f0ddda6ddd3, 0x96744587cbf7e57e0f77c6751bd1055dad604c07ed44291a49a1621562c69116, 0xf541a16a9b0a5912448b66385b0999911f21746ceb60ebd1f146a8e5f489dc96, 0xf8649738727b57248a44f7f31e404fc865cf594cf77ed8bd20880d2e574fc805, 0x69684342fa31860f9cccfd531b4a2ddd174b5ed79cbf1a2713ac77c0e36bf86e, 0x3b5e672f11f385c48d9cc77d9847860ab1fb545c0802258b62de708876a1a190, 0x4b08c9692406f0103fa07836fee42822c0bfd495db7a287bd330c19fe3fa9216, 0x89d75bc960c618b7055cb8f03114d8eff63759debf71308f90875ebbed776691, 0xcb033b3bab12388ac3b87e1bf2605790b3afcc802ca69492a4fafbda4585e376, 0x4902dc2e04b331ca5dcc57b9c4b1c9041f8c2c72e1807b865845fbd1f2fc0d54, 0xf99fa10917e0e93ab5f241dbc4809f2a62118d5d5f639bb112ab23f07a63ca79, 0x26227c2c4c22f7af5634eafe8c0f766da333c60cf64306b5e7ac57eb0f517327, 0xbaab7151015387429c953a32a1ebaf5a6d62ea359b2f4c3772a770d330d76cfe, 0x940335a12c9e6161d1327b8afc6ba9f2b1d86e54520156072069874af59e0344, 0xd92382d6cc214e65a72254ce91d976e606a2b14a72d0acfc6cf6f14f779fe0e2, 0xf2af448973dad0d89d6683ba53b90b6a200ba7376ac660cafa75448fd74e6703, 0xd8632a0699d5f857ca24d15213ba1b7c27f94f93a20d32c85ab2b9a11455e236, 0xe88c6b2bd0d2a418ff09a9ccfd478d82570ad068b59ddd49542d0f39d4c1ee54, 0x2560a870e6a06631a07f253fdbe6b47496e0b9959f88fda442b2b1923282180b, 0x374e2199b26f6d6bf750a8128a9d64b6950e2bce515c7f7fe370efaf321d13ac, 0x1d5d196ba90b53b6fc14f7a7560118f96931485a2d9b964bed8d3171b660c398, 0x5eac9ae5ca1882cfd18dff383c23f8239640255db2b52cbf6ef0d658532af5af, 0x56f50b0cf84f8b75f233bfc5284036f37d68449d5ea909b5c67b0a9928dd75bb, 0xa581250a41efe199f7560b4983752e692407ea6686ad3b94d58ea3f2fcdec064, 0x9a2467586462638638946f46960b88beb512df4a59d08504d19357eb370714fc, 0x371043519039febca87ef633b54f0cb5aa93dbae8bd4f0eaab0f0b52277ba2ee, 0x9ce9fdfd7e8ee98b43f0301538e1bf552f0be806b5d29a4383815050d4d7d37b, 0x06a2e66205fe9b230f7a7e510f288de4a4e0f0ca63db496fb296356af9d15839, 0x84fea0b43cc7f23ab2f2caef2371fe1555c8d5f955c41b3551ccc19df32420e2, 0xd902dd5d8b26aea0dd9457bd76f559a70b86eed137f0232596da8995f7368810, 0xa961c6f196ce3251a10950237c53ec9a1794fc2614760305e070ae967b9e28b8, 0xb15893267b4531e8bdf656470c939f551f8c677f6a4cffd1e89aecc9a2d4b25d, 0x5afb3a862efe227f3a63801735536d9ea0ad28b2d823e9a927582bfc1bd8c9c9, 0x31b9148397e02b03d93d83e2c107666db8d24491bdef2a1dc77116040fa006b2, 0x30601ad54c879b69b875376ad7319da685b6e5e094f04cef21a3f13c6a151411, 0x6bc7037a4e48e4a8d79927b5981eead35f4298a7684aa1695ba8cede319057d9, 0x727ede08f805fdef33a4568295f57c2e5d4764081fe4f47f43e1d7817c39a38e, 0x422f10233fe19c2a5fe825306df3ef65ecf67dc0918466fab704ef823a06db14, 0xd458f0fa6bd3c5b98b65a30372f92ca96c68a1ba58ab4a4e49f7e99ed24e5bfc, 0x721937b3f23d3b58b546d05ba934bc574ddd0413bcf595a52a294f3b3c5d8801, 0x70d6f5a0e97f78ab8b01a75b6cb895c57fd435c586fd1be566f781360d5ae241, 0xdb0ad225ff97908764d086ded4a1495b2fe9b2eab957dff4333c2977d360b85c, 0x44c21accba38045d3f4dd9f3da3b88a941742e0cd458a198bc67bd755001febc, 0x34b84b4170f64a2f8d54a6f6bc5388859959a21fdb7da8e710c1d836034d0ad5, 0x9071d0c6e447b241bbc04c2c7a5324a1a37b872b47f07a5e70f6972a3955e25d, 0xfbc5a5e02ae5834aa1c2ae7fca2adccf950b3f8014bac99075d1996d32eed0a2, 0x0076122bab65b8ac997031d7027f7428c815a56d7d7ddf3a480ab3211393001f, 0xf4bde6b52f21e3954abcb9edf28531152fb34378829a3f4dfc84e696786cd103, 0x1b90628c1ad2a615aec9bd07aacadf4aebf524aec0a8b850333d74ee5bb0b534, 0x28fbe2e69744f9485d801f81f7aae60bc328032da48d6ec94ce7fab78f81317d, 0xbb7cec6a13c4ffd9381087f11088eefd4ad13b8386b979dd2b719bc2f3fa3d50, 0xfb3883332eed3bc02175514c6a6d4a92984e4fdb6d6a42d0bc2d72395e9b02c6, 0x791ea1eb9bf9d49183880771119aaed9cf9ebfa7ec4bc0d9e4285681d38e7186, 0xe985be8c2e6ad5d2ad1be2c7cbb4f8ec6e640356375096796cc802b76a2c3472, 0x8c343da7e6cbccff4785aefca75ed25402df2ede28535c5ae0e600e11be32d4e, 0x5f4897d9e36ccafe82a78a45c28a8cdba3c22e369a15a9d0d8e0572edab27c48, 0x8d4338750a5d1de77a567d93892a6e0c2cc01ae03916d3736e378ba922834253]
noncomputable def sE (k : Nat) : Nat := frc (dA.getD k 0) fun d => frc (bgQ k) fun V => alE (t3L ++ highL k 2) d 0 V
noncomputable def rcE (T d : List Nat) (k : Nat) : Nat := frc (d.getD k 0) fun d => frc (15 - d) fun n => frc (sN.getD k 0) fun V => alE (T ++ highL k 2) n d V
noncomputable def sOk (k : Nat) : Bool := Nat.beq (sE k) (sN.getD k 0)
noncomputable def rOk (T d l : List Nat) (k : Nat) : Bool := Nat.beq (rcE T d k) (l.getD k 0)
theorem es0 : sOk 0 = true := by decide +kernel
theorem es1 : sOk 1 = true := by decide +kernel
theorem es2 : sOk 2 = true := by decide +kernel
theorem es3 : sOk 3 = true := by decide +kernel
theorem es4 : sOk 4 = true := by decide +kernel
theorem es5 : sOk 5 = true := by decide +kernel
theorem es6 : sOk 6 = true := by decide +kernel
theorem es7 : sOk 7 = true := by decide +kernel
theorem es8 : sOk 8 = true := by decide +kernel
theorem es9 : sOk 9 = true := by decide +kernel
theorem es10 : sOk 10 = true := by decide +kernel
theorem es11 : sOk 11 = true := by decide +kernel
theorem es12 : sOk 12 = true := by decide +kernel
theorem es13 : sOk 13 = true := by decide +kernel
theorem es14 : sOk 14 = true := by decide +kernel
theorem es15 : sOk 15 = true := by decide +kernel
theorem es16 : sOk 16 = true := by decide +kernel
theorem es17 : sOk 17 = true := by decide +kernel
theorem es18 : sOk 18 = true := by decide +kernel
theorem es19 : sOk 19 = true := by decide +kernel
theorem es20 : sOk 20 = true := by decide +kernel
theorem es21 : sOk 21 = true := by decide +kernel
theorem es22 : sOk 22 = true := by decide +kernel
theorem es23 : sOk 23 = true := by decide +kernel
theorem es24 : sOk 24 = true := by decide +kernel
theorem es25 : sOk 25 = true := by decide +kernel
theorem es26 : sOk 26 = true := by decide +kernel
theorem es27 : sOk 27 = true := by decide +kernel
theorem es28 : sOk 28 = true := by decide +kernel
theorem es29 : sOk 29 = true := by decide +kernel
theorem es30 : sOk 30 = true := by decide +kernel
theorem es31 : sOk 31 = true := by decide +kernel
theorem es32 : sOk 32 = true := by decide +kernel
theorem es33 : sOk 33 = true := by decide +kernel
theorem es34 : sOk 34 = true := by decide +kernel
theorem es35 : sOk 35 = true := by decide +kernel
theorem es36 : sOk 36 = true := by decide +kernel
theorem es37 : sOk 37 = true := by decide +kernel
theorem es38 : sOk 38 = true := by decide +kernel
theorem es39 : sOk 39 = true := by decide +kernel
theorem es40 : sOk 40 = true := by decide +kernel
theorem es41 : sOk 41 = true := by decide +kernel
theorem es42 : sOk 42 = true := by decide +kernel
theorem es43 : sOk 43 = true := by decide +kernel
theorem es44 : sOk 44 = true := by decide +kernel
theorem es45 : sOk 45 = true := by decide +kernel
theorem es46 : sOk 46 = true := by decide +kernel
theorem es47 : sOk 47 = true := by decide +kernel
theorem es48 : sOk 48 = true := by decide +kernel
theorem es49 : sOk 49 = true := by decide +kernel
theorem es50 : sOk 50 = true := by decide +kernel
theorem es51 : sOk 51 = true := by decide +kernel
theorem es52 : sOk 52 = true := by decide +kernel
theorem es53 : sOk 53 = true := by decide +kernel
theorem es54 : sOk 54 = true := by decide +kernel
theorem es55 : sOk 55 = true := by decide +kernel
theorem es56 : sOk 56 = true := by decide +kernel
theorem es57 : sOk 57 = true := by decide +kernel
theorem es58 : sOk 58 = true := by decide +kernel
theorem es59 : sOk 59 = true := by decide +kernel
theorem es60 : sOk 60 = true := by decide +kernel
theorem es61 : sOk 61 = true := by decide +kernel
theorem es62 : sOk 62 = true := by decide +kernel
theorem es63 : sOk 63 = true := by decide +kernel
theorem es64 : sOk 64 = true := by decide +kernel
theorem es65 : sOk 65 = true := by decide +kernel
theorem es66 : sOk 66 = true := by decide +kernel
theorem ep0 : rOk t3L dA pN 0 = true := by decide +kernel
theorem ep1 : rOk t3L dA pN 1 = true := by decide +kernel
theorem ep2 : rOk t3L dA pN 2 = true := by decide +kernel
theorem ep3 : rOk t3L dA pN 3 = true := by decide +kernel
theorem ep4 : rOk t3L dA pN 4 = true := by decide +kernel
theorem ep5 : rOk t3L dA pN 5 = true := by decide +kernel
theorem ep6 : rOk t3L dA pN 6 = true := by decide +kernel
theorem ep7 : rOk t3L dA pN 7 = true := by decide +kernel
theorem ep8 : rOk t3L dA pN 8 = true := by decide +kernel
theorem ep9 : rOk t3L dA pN 9 = true := by decide +kernel
theorem ep10 : rOk t3L dA pN 10 = true := by decide +kernel
theorem ep11 : rOk t3L dA pN 11 = true := by decide +kernel
theorem ep12 : rOk t3L dA pN 12 = true := by decide +kernel
theorem ep13 : rOk t3L dA pN 13 = true := by decide +kernel
theorem ep14 : rOk t3L dA pN 14 = true := by decide +kernel
theorem ep15 : rOk t3L dA pN 15 = true := by decide +kernel
theorem ep16 : rOk t3L dA pN 16 = true := by decide +kernel
theorem ep17 : rOk t3L dA pN 17 = true := by decide +kernel
theorem ep18 : rOk t3L dA pN 18 = true := by decide +kernel
theorem ep19 : rOk t3L dA pN 19 = true := by decide +kernel
theorem ep20 : rOk t3L dA pN 20 = true := by decide +kernel
theorem ep21 : rOk t3L dA pN 21 = true := by decide +kernel
theorem ep22 : rOk t3L dA pN 22 = true := by decide +kernel
theorem ep23 : rOk t3L dA pN 23 = true := by decide +kernel
theorem ep24 : rOk t3L dA pN 24 = true := by decide +kernel
theorem ep25 : rOk t3L dA pN 25 = true := by decide +kernel
theorem ep26 : rOk t3L dA pN 26 = true := by decide +kernel
theorem ep27 : rOk t3L dA pN 27 = true := by decide +kernel
theorem ep28 : rOk t3L dA pN 28 = true := by decide +kernel
theorem ep29 : rOk t3L dA pN 29 = true := by decide +kernel
theorem ep30 : rOk t3L dA pN 30 = true := by decide +kernel
theorem ep31 : rOk t3L dA pN 31 = true := by decide +kernel
theorem ep32 : rOk t3L dA pN 32 = true := by decide +kernel
theorem ep33 : rOk t3L dA pN 33 = true := by decide +kernel
theorem ep34 : rOk t3L dA pN 34 = true := by decide +kernel
theorem ep35 : rOk t3L dA pN 35 = true := by decide +kernel
theorem ep36 : rOk t3L dA pN 36 = true := by decide +kernel
theorem ep37 : rOk t3L dA pN 37 = true := by decide +kernel
theorem ep38 : rOk t3L dA pN 38 = true := by decide +kernel
theorem ep39 : rOk t3L dA pN 39 = true := by decide +kernel
theorem ep40 : rOk t3L dA pN 40 = true := by decide +kernel
theorem ep41 : rOk t3L dA pN 41 = true := by decide +kernel
theorem ep42 : rOk t3L dA pN 42 = true := by decide +kernel
theorem ep43 : rOk t3L dA pN 43 = true := by decide +kernel
theorem ep44 : rOk t3L dA pN 44 = true := by decide +kernel
theorem ep45 : rOk t3L dA pN 45 = true := by decide +kernel
theorem ep46 : rOk t3L dA pN 46 = true := by decide +kernel
theorem ep47 : rOk t3L dA pN 47 = true := by decide +kernel
theorem ep48 : rOk t3L dA pN 48 = true := by decide +kernel
theorem ep49 : rOk t3L dA pN 49 = true := by decide +kernel
theorem ep50 : rOk t3L dA pN 50 = true := by decide +kernel
theorem ep51 : rOk t3L dA pN 51 = true := by decide +kernel
theorem ep52 : rOk t3L dA pN 52 = true := by decide +kernel
theorem ep53 : rOk t3L dA pN 53 = true := by decide +kernel
theorem ep54 : rOk t3L dA pN 54 = true := by decide +kernel
theorem ep55 : rOk t3L dA pN 55 = true := by decide +kernel
theorem ep56 : rOk t3L dA pN 56 = true := by decide +kernel
theorem ep57 : rOk t3L dA pN 57 = true := by decide +kernel
theorem ep58 : rOk t3L dA pN 58 = true := by decide +kernel
theorem ep59 : rOk t3L dA pN 59 = true := by decide +kernel
theorem ep60 : rOk t3L dA pN 60 = true := by decide +kernel
theorem ep61 : rOk t3L dA pN 61 = true := by decide +kernel
theorem ep62 : rOk t3L dA pN 62 = true := by decide +kernel
theorem ep63 : rOk t3L dA pN 63 = true := by decide +kernel
theorem ep64 : rOk t3L dA pN 64 = true := by decide +kernel
theorem ep65 : rOk t3L dA pN 65 = true := by decide +kernel
theorem ep66 : rOk t3L dA pN 66 = true := by decide +kernel
theorem ev0 : rOk t3L dB vN 0 = true := by decide +kernel
theorem ev1 : rOk t3L dB vN 1 = true := by decide +kernel
theorem ev2 : rOk t3L dB vN 2 = true := by decide +kernel
theorem ev3 : rOk t3L dB vN 3 = true := by decide +kernel
theorem ev4 : rOk t3L dB vN 4 = true := by decide +kernel
theorem ev5 : rOk t3L dB vN 5 = true := by decide +kernel
theorem ev6 : rOk t3L dB vN 6 = true := by decide +kernel
theorem ev7 : rOk t3L dB vN 7 = true := by decide +kernel
theorem ev8 : rOk t3L dB vN 8 = true := by decide +kernel
theorem ev9 : rOk t3L dB vN 9 = true := by decide +kernel
theorem ev10 : rOk t3L dB vN 10 = true := by decide +kernel
theorem ev11 : rOk t3L dB vN 11 = true := by decide +kernel
theorem ev12 : rOk t3L dB vN 12 = true := by decide +kernel
theorem ev13 : rOk t3L dB vN 13 = true := by decide +kernel
theorem ev14 : rOk t3L dB vN 14 = true := by decide +kernel
theorem ev15 : rOk t3L dB vN 15 = true := by decide +kernel
theorem ev16 : rOk t3L dB vN 16 = true := by decide +kernel
theorem ev17 : rOk t3L dB vN 17 = true := by decide +kernel
theorem ev18 : rOk t3L dB vN 18 = true := by decide +kernel
theorem ev19 : rOk t3L dB vN 19 = true := by decide +kernel
theorem ev20 : rOk t3L dB vN 20 = true := by decide +kernel
theorem ev21 : rOk t3L dB vN 21 = true := by decide +kernel
theorem ev22 : rOk t3L dB vN 22 = true := by decide +kernel
theorem ev23 : rOk t3L dB vN 23 = true := by decide +kernel
theorem ev24 : rOk t3L dB vN 24 = true := by decide +kernel
theorem ev25 : rOk t3L dB vN 25 = true := by decide +kernel
theorem ev26 : rOk t3L dB vN 26 = true := by decide +kernel
theorem ev27 : rOk t3L dB vN 27 = true := by decide +kernel
theorem ev28 : rOk t3L dB vN 28 = true := by decide +kernel
theorem ev29 : rOk t3L dB vN 29 = true := by decide +kernel
theorem ev30 : rOk t3L dB vN 30 = true := by decide +kernel
theorem ev31 : rOk t3L dB vN 31 = true := by decide +kernel
theorem ev32 : rOk t3L dB vN 32 = true := by decide +kernel
theorem ev33 : rOk t3L dB vN 33 = true := by decide +kernel
theorem ev34 : rOk t3L dB vN 34 = true := by decide +kernel
theorem ev35 : rOk t3L dB vN 35 = true := by decide +kernel
theorem ev36 : rOk t3L dB vN 36 = true := by decide +kernel
theorem ev37 : rOk t3L dB vN 37 = true := by decide +kernel
theorem ev38 : rOk t3L dB vN 38 = true := by decide +kernel
theorem ev39 : rOk t3L dB vN 39 = true := by decide +kernel
theorem ev40 : rOk t3L dB vN 40 = true := by decide +kernel
theorem ev41 : rOk t3L dB vN 41 = true := by decide +kernel
theorem ev42 : rOk t3L dB vN 42 = true := by decide +kernel
theorem ev43 : rOk t3L dB vN 43 = true := by decide +kernel
theorem ev44 : rOk t3L dB vN 44 = true := by decide +kernel
theorem ev45 : rOk t3L dB vN 45 = true := by decide +kernel
theorem ev46 : rOk t3L dB vN 46 = true := by decide +kernel
theorem ev47 : rOk t3L dB vN 47 = true := by decide +kernel
theorem ev48 : rOk t3L dB vN 48 = true := by decide +kernel
theorem ev49 : rOk t3L dB vN 49 = true := by decide +kernel
theorem ev50 : rOk t3L dB vN 50 = true := by decide +kernel
theorem ev51 : rOk t3L dB vN 51 = true := by decide +kernel
theorem ev52 : rOk t3L dB vN 52 = true := by decide +kernel
theorem ev53 : rOk t3L dB vN 53 = true := by decide +kernel
theorem ev54 : rOk t3L dB vN 54 = true := by decide +kernel
theorem ev55 : rOk t3L dB vN 55 = true := by decide +kernel
theorem ev56 : rOk t3L dB vN 56 = true := by decide +kernel
theorem ev57 : rOk t3L dB vN 57 = true := by decide +kernel
theorem ev58 : rOk t3L dB vN 58 = true := by decide +kernel
theorem ev59 : rOk t3L dB vN 59 = true := by decide +kernel
theorem ev60 : rOk t3L dB vN 60 = true := by decide +kernel
theorem ev61 : rOk t3L dB vN 61 = true := by decide +kernel
theorem ev62 : rOk t3L dB vN 62 = true := by decide +kernel
theorem ev63 : rOk t3L dB vN 63 = true := by decide +kernel
theorem ev64 : rOk t3L dB vN 64 = true := by decide +kernel
theorem ev65 : rOk t3L dB vN 65 = true := by decide +kernel
theorem ev66 : rOk t3L dB vN 66 = true := by decide +kernel
theorem eq0 : rOk t4L dA qN 0 = true := by decide +kernel
theorem eq1 : rOk t4L dA qN 1 = true := by decide +kernel
theorem eq2 : rOk t4L dA qN 2 = true := by decide +kernel
theorem eq3 : rOk t4L dA qN 3 = true := by decide +kernel
theorem eq4 : rOk t4L dA qN 4 = true := by decide +kernel
theorem eq5 : rOk t4L dA qN 5 = true := by decide +kernel
theorem eq6 : rOk t4L dA qN 6 = true := by decide +kernel
theorem eq7 : rOk t4L dA qN 7 = true := by decide +kernel
theorem eq8 : rOk t4L dA qN 8 = true := by decide +kernel
theorem eq9 : rOk t4L dA qN 9 = true := by decide +kernel
theorem eq10 : rOk t4L dA qN 10 = true := by decide +kernel
theorem eq11 : rOk t4L dA qN 11 = true := by decide +kernel
theorem eq12 : rOk t4L dA qN 12 = true := by decide +kernel
theorem eq13 : rOk t4L dA qN 13 = true := by decide +kernel
theorem eq14 : rOk t4L dA qN 14 = true := by decide +kernel
theorem eq15 : rOk t4L dA qN 15 = true := by decide +kernel
theorem eq16 : rOk t4L dA qN 16 = true := by decide +kernel
theorem eq17 : rOk t4L dA qN 17 = true := by decide +kernel
theorem eq18 : rOk t4L dA qN 18 = true := by decide +kernel
theorem eq19 : rOk t4L dA qN 19 = true := by decide +kernel
theorem eq20 : rOk t4L dA qN 20 = true := by decide +kernel
theorem eq21 : rOk t4L dA qN 21 = true := by decide +kernel
theorem eq22 : rOk t4L dA qN 22 = true := by decide +kernel
theorem eq23 : rOk t4L dA qN 23 = true := by decide +kernel
theorem eq24 : rOk t4L dA qN 24 = true := by decide +kernel
theorem eq25 : rOk t4L dA qN 25 = true := by decide +kernel
theorem eq26 : rOk t4L dA qN 26 = true := by decide +kernel
theorem eq27 : rOk t4L dA qN 27 = true := by decide +kernel
theorem eq28 : rOk t4L dA qN 28 = true := by decide +kernel
theorem eq29 : rOk t4L dA qN 29 = true := by decide +kernel
theorem eq30 : rOk t4L dA qN 30 = true := by decide +kernel
theorem eq31 : rOk t4L dA qN 31 = true := by decide +kernel
theorem eq32 : rOk t4L dA qN 32 = true := by decide +kernel
theorem eq33 : rOk t4L dA qN 33 = true := by decide +kernel
theorem eq34 : rOk t4L dA qN 34 = true := by decide +kernel
theorem eq35 : rOk t4L dA qN 35 = true := by decide +kernel
theorem eq36 : rOk t4L dA qN 36 = true := by decide +kernel
theorem eq37 : rOk t4L dA qN 37 = true := by decide +kernel
theorem eq38 : rOk t4L dA qN 38 = true := by decide +kernel
theorem eq39 : rOk t4L dA qN 39 = true := by decide +kernel
theorem eq40 : rOk t4L dA qN 40 = true := by decide +kernel
theorem eq41 : rOk t4L dA qN 41 = true := by decide +kernel
theorem eq42 : rOk t4L dA qN 42 = true := by decide +kernel
theorem eq43 : rOk t4L dA qN 43 = true := by decide +kernel
theorem eq44 : rOk t4L dA qN 44 = true := by decide +kernel
theorem eq45 : rOk t4L dA qN 45 = true := by decide +kernel
theorem eq46 : rOk t4L dA qN 46 = true := by decide +kernel
theorem eq47 : rOk t4L dA qN 47 = true := by decide +kernel
theorem eq48 : rOk t4L dA qN 48 = true := by decide +kernel
theorem eq49 : rOk t4L dA qN 49 = true := by decide +kernel
theorem eq50 : rOk t4L dA qN 50 = true := by decide +kernel
theorem eq51 : rOk t4L dA qN 51 = true := by decide +kernel
theorem eq52 : rOk t4L dA qN 52 = true := by decide +kernel
theorem eq53 : rOk t4L dA qN 53 = true := by decide +kernel
theorem eq54 : rOk t4L dA qN 54 = true := by decide +kernel
theorem eq55 : rOk t4L dA qN 55 = true := by decide +kernel
theorem eq56 : rOk t4L dA qN 56 = true := by decide +kernel
theorem eq57 : rOk t4L dA qN 57 = true := by decide +kernel
theorem eq58 : rOk t4L dA qN 58 = true := by decide +kernel
theorem eq59 : rOk t4L dA qN 59 = true := by decide +kernel
theorem eq60 : rOk t4L dA qN 60 = true := by decide +kernel
theorem eq61 : rOk t4L dA qN 61 = true := by decide +kernel
theorem eq62 : rOk t4L dA qN 62 = true := by decide +kernel
theorem eq63 : rOk t4L dA qN 63 = true := by decide +kernel
theorem eq64 : rOk t4L dA qN 64 = true := by decide +kernel
theorem eq65 : rOk t4L dA qN 65 = true := by decide +kernel
theorem eq66 : rOk t4L dA qN 66 = true := by decide +kernel
end Go.Proofs.YtdejhenkdbjakaaDoor
