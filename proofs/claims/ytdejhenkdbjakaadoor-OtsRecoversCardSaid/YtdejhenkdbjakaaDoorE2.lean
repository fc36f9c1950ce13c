/- The chapter's examples (law08) as the kernel reckons them: what it reckons. -/
import Derived.Test.YtdejhenkdbjakaaDoorE1
import Derived.Test.YtdejhenkdbjakaaDoorS2
set_option linter.unusedVariables false
set_option linter.unusedSimpArgs false
namespace Go.Proofs.YtdejhenkdbjakaaDoor
def tgL : List Nat := [2, 0, 0, 0, 0, 0, 0, 0, 0, 0, 0, 0, 0, 0, 0, 0, 0, 0, 0, 0, 0, 0, 0, 0, 0, 0, 0, 0, 0, 0, 0, 0]
def p5L : List Nat := [93, 92, 92, 92, 92, 92, 92, 92, 92, 92, 92, 92, 92, 92, 92, 92, 92, 92, 92, 92, 92, 92, 92, 92, 92, 92, 92, 92, 92, 92, 92, 92, 92, 92, 92, 92, 92, 92, 92, 92, 92, 92, 92, 92, 92, 92, 92, 92, 92, 92, 92, 92, 92, 92, 92, 92, 92, 92, 92, 92, 92, 92, 92, 92]
def p3L : List Nat := [55, 54, 54, 54, 54, 54, 54, 54, 54, 54, 54, 54, 54, 54, 54, 54, 54, 54, 54, 54, 54, 54, 54, 54, 54, 54, 54, 54, 54, 54, 54, 54, 54, 54, 54, 54, 54, 54, 54, 54, 54, 54, 54, 54, 54, 54, 54, 54, 54, 54, 54, 54, 54, 54, 54, 54, 54, 54, 54, 54, 54, 54, 54, 54]
theorem tgL_eq : kl (oneF 2) = tgL := by decide +kernel
theorem p5L_eq : padK (kl (oneF 1)) 92 = p5L := by decide +kernel
theorem p3L_eq : padK (kl (oneF 1)) 54 = p3L := by decide +kernel
def infoN (k : Nat) : List Nat := 5 :: 99 :: 104 :: 97 :: 105 :: 110 :: 0 :: 0 :: 0 :: 2 :: (highL k 2 ++ [1])
theorem infoN_eq (k : Nat) (h : k < 18446744073709551616) : infoL sChain [hb (k : Int) 2] ++ [1] = infoN k := by
  have e : hb (k : Int) 2 = highL k 2 := by unfold hb; rw [u64n_nat h]
  have e2 : highL 2 4 = [0, 0, 0, 2] := by decide
  unfold infoL infoN sChain
  rw [e]
  simp only [List.map_cons, List.map_nil, List.flatten_cons, List.flatten_nil, List.append_nil, highL_len, e2]
  rfl
noncomputable def bgE (k : Nat) : Nat := derE p5L p3L (infoN k)
theorem bgE_spec (k : Nat) (h : k < 18446744073709551616) : highL (bgE k) 32 = kl (begF (oneF 1) k) := by
  have e : begF (oneF 1) (k : Int) = macK (kl (oneF 1)) (infoN k) := by
    unfold begF derK
    rw [infoN_eq k h]
  rw [e]
  exact derE_spec p5L p3L (infoN k) (kl (oneF 1)) p5L_eq p3L_eq
noncomputable def pbE (k : Nat) : Nat := frc (bgE k) fun V => alE (tgL ++ highL k 2) 15 0 V
theorem pbE_spec (k : Nat) (h : k < 18446744073709551616) : highL (pbE k) 32 = kl (pbK (oneF 1) (oneF 2) k) := by
  have e : pbE k = alE (tgL ++ highL k 2) 15 0 (bgE k) := frc_eq _ _
  rw [e, ← tgL_eq]
  exact alE_spec (oneF 2) k h 15 0 _ _ (by omega) (bgE_spec k h)
/-- From the start a steps, then from b on c steps. -/
noncomputable def twE (k a b c : Nat) : Nat := frc (bgE k) fun V => frc (alE (tgL ++ highL k 2) a 0 V) fun U => alE (tgL ++ highL k 2) c b U
theorem twE_spec (k a b c : Nat) (h : k < 18446744073709551616) (h2 : b + c < 18446744073709551616) (ha : a < 18446744073709551616) : highL (twE k a b c) 32 = kl (alF (oneF 2) k (b : Int) (alF (oneF 2) k 0 (begF (oneF 1) k) a) c) := by
  have e : twE k a b c = alE (tgL ++ highL k 2) c b (alE (tgL ++ highL k 2) a 0 (bgE k)) := (frc_eq _ _).trans (frc_eq _ _)
  rw [e, ← tgL_eq]
  exact alE_spec (oneF 2) k h c b _ _ h2 (alE_spec (oneF 2) k h a 0 _ _ (by omega) (bgE_spec k h))
theorem en0 : Nat.beq (pbE 0) 0x77d061f72970cb6d73f96adabb3f5f541c237bb9745fe4798d0b71bb462464e3 = true := by decide +kernel
theorem en1 : Nat.beq (pbE 1) 0xa1b3f793674829d8acdd50088af7d16c75210670c1aeefe8271b93697772ce54 = true := by decide +kernel
theorem en2 : Nat.beq (pbE 2) 0x57d82c7daa2c0f981200bd62acafddd5646a8523d7740ae0743acc52eba698bf = true := by decide +kernel
theorem en3 : Nat.beq (pbE 3) 0x03945704c5bc2685e668588c65c67872ba251a89839bdba11b960f888e0a0f4a = true := by decide +kernel
theorem en4 : Nat.beq (pbE 4) 0xa08b234beafa405f2a82be46388579f21ec28ba3637f1fc469c5e5f45ffec4e6 = true := by decide +kernel
theorem en5 : Nat.beq (pbE 5) 0x2922d3044acad6c06cf98aaa0c48b3d2aafb3c53149a2000cdb7c4f2064d765a = true := by decide +kernel
theorem en6 : Nat.beq (pbE 6) 0x79ac3e99f30b21a798a536c1dfa8492e95c8019b46fa4e537ab76fdedad2f473 = true := by decide +kernel
theorem en7 : Nat.beq (pbE 7) 0x1ce7042706ead5b20931b9cbe023f8f1ee31dd3f5cd14b03048569a1a01af76b = true := by decide +kernel
theorem en8 : Nat.beq (pbE 8) 0x9c5acf889f9fba5641eb7629eb968ca0dfe88073fdaa5d794c4a1f240f47cf02 = true := by decide +kernel
theorem en9 : Nat.beq (pbE 9) 0xd8e3ad666500cb56989bd85ce46b3262c425cd549ed5d76b384f13a9d75fd64c = true := by decide +kernel
theorem en10 : Nat.beq (pbE 10) 0x26605b1f9ca2420f308ff8d0d066659289a6a231bdbdb7b9945f54b4cd53873c = true := by decide +kernel
theorem en11 : Nat.beq (pbE 11) 0x36300bb008aa9ad26dc39f122fb3c07953f073f4dc32e5a07cd18e5e04fb1de8 = true := by decide +kernel
theorem en12 : Nat.beq (pbE 12) 0x104675c05127131f64b565dd08bd1b3b90c7df0a7c45b3f49228478d29b4e08c = true := by decide +kernel
theorem en13 : Nat.beq (pbE 13) 0xfa0c553a0123eb8d6c9c5d5d940153b2cf9ecd6f861586ea092d7bc7c9399795 = true := by decide +kernel
theorem en14 : Nat.beq (pbE 14) 0xd9aecf8648ab895cff6c0d6fdfceb3645a045cb01cef866b5a96e4209ec35680 = true := by decide +kernel
theorem en15 : Nat.beq (pbE 15) 0x18f0f5b24c047b1e4ddb5c6239a53d101dfe8791708f80d1384c27a96e83b277 = true := by decide +kernel
theorem en16 : Nat.beq (pbE 16) 0x65bfc502d8c8ef0d84669ce98826870ef98ae7185ce4b2fff476d42646bf4ebf = true := by decide +kernel
theorem en17 : Nat.beq (pbE 17) 0x384a69be7cb498c3bd13d970497e8dfef82c60d6f7f90a0c94b48cc7eefebf6f = true := by decide +kernel
theorem en18 : Nat.beq (pbE 18) 0x2e270180bf9e3a4355192e4259ac69dd9a5700c915fef7fffe7bc08da069a4b0 = true := by decide +kernel
theorem en19 : Nat.beq (pbE 19) 0xdb6c849c885f4d941b2c9feb0d754c54078d4acbc27a18e766f3260031d8c45c = true := by decide +kernel
theorem en20 : Nat.beq (pbE 20) 0x92c361d2a144e58e5972d5fcc36bce0f9c486dddb2e0a1ba9aeb8c5330ce0534 = true := by decide +kernel
theorem en21 : Nat.beq (pbE 21) 0x2f14bee0b21aaf018b1472ff9a8ca6904823a139bc84b33c7e50e14c9a0771ae = true := by decide +kernel
theorem en22 : Nat.beq (pbE 22) 0xac794e61570e00e35ba47cff08dea3c74e2bfac3bd7d345810cbd75195b2ba65 = true := by decide +kernel
theorem en23 : Nat.beq (pbE 23) 0x0bae7a0ff49ae6445fe38698a13b6237457d415912cc9f93338e7b40e8269032 = true := by decide +kernel
theorem en24 : Nat.beq (pbE 24) 0x64cc8604dc4710fab67b7c1b93ba25a1f164e96cf5b0f34fba06022e6e19def9 = true := by decide +kernel
theorem en25 : Nat.beq (pbE 25) 0xcc6155000332b253cb8d98d1dde821b30cbb7297ce5ed45a88e9e01fc5c7f70b = true := by decide +kernel
theorem en26 : Nat.beq (pbE 26) 0xead397579905432e027df8aa0da2647a153e78f5a307d0786b0360cf1d5a620d = true := by decide +kernel
theorem en27 : Nat.beq (pbE 27) 0xb7f68965ddc950bd052424dd0b5129d380764cf07f1db0c16e802f72d1dc619b = true := by decide +kernel
theorem en28 : Nat.beq (pbE 28) 0x3d26f28c6c7ccfa572f5e165b8c7853b920d0f478ea2b61da74b3b89d06b515b = true := by decide +kernel
theorem en29 : Nat.beq (pbE 29) 0x2f915cd0cab691c725c7cb9ea2fb6aad625a3158e75240af28e8c4164d8e3ecf = true := by decide +kernel
theorem en30 : Nat.beq (pbE 30) 0x2b59f764eaf3d840a87aab55ccb1353cdccd5e91f3d432d1f0786d8d396d5b4f = true := by decide +kernel
theorem en31 : Nat.beq (pbE 31) 0xfbe0b5b8f8b0544e20611066772adede4683e09d9b919da626c8172c4d702326 = true := by decide +kernel
theorem en32 : Nat.beq (pbE 32) 0x1c59185a8adfd741de806a5ba4967471dc33da9822ed3ed9e9f44c7685f424c8 = true := by decide +kernel
theorem en33 : Nat.beq (pbE 33) 0x0f389af8098c7c6f20d8cb79fa2b3c19e0c11f950d081458357ad7a441d271f6 = true := by decide +kernel
theorem en34 : Nat.beq (pbE 34) 0xb2b3d4ac3e8d968220ce1ccbdced8ed602334dac4ea1a35bd0dc452256cf6a65 = true := by decide +kernel
theorem en35 : Nat.beq (pbE 35) 0x4d8aeefb8fbb6373f32904dd2a6a4526cbfe20c6929fbaa8988222a53dc553a8 = true := by decide +kernel
theorem en36 : Nat.beq (pbE 36) 0xd5cec211d6cac6565d19166b5fa74c9a68035cb8498634102767638ffc4bb113 = true := by decide +kernel
theorem en37 : Nat.beq (pbE 37) 0x93f81bab19dafb11d51af73f10dcf705eb5c4f5ee49bd39b6a89a4b8bcd8ea49 = true := by decide +kernel
theorem en38 : Nat.beq (pbE 38) 0x2befcb5cf51335cc1b77c60d082d25306fced7244fe0e11224e455ce5b932f8f = true := by decide +kernel
theorem en39 : Nat.beq (pbE 39) 0xaa55e1279b11ee2bd0b3a40e248e42f4f631a622ddd635ad901100733554063b = true := by decide +kernel
theorem en40 : Nat.beq (pbE 40) 0xc1afc868a0e2c6b51e6aae7bc6d724404f580ca0d2297efd939b8a1b1f0cfc7f = true := by decide +kernel
theorem en41 : Nat.beq (pbE 41) 0x910db59c2c2dad866007437e775675ac9f4526573bc476505ade535794b9231d = true := by decide +kernel
theorem en42 : Nat.beq (pbE 42) 0x8f6fee80642ef2fb16e743842a3bdf05bc8b360d02df13621613d983262d726a = true := by decide +kernel
theorem en43 : Nat.beq (pbE 43) 0xe76ffa1091571d95aaf2e34c490832811792589fff26303d191e120362587718 = true := by decide +kernel
theorem en44 : Nat.beq (pbE 44) 0xbffb12506f91c1df3e6b8f98ca1e49454776fabadc4881ca70eef65cab0651d7 = true := by decide +kernel
theorem en45 : Nat.beq (pbE 45) 0x199e3c1ed7ce196349c51366afadd5402ccbee2d2dad40e3c0cd5bd8f9dee421 = true := by decide +kernel
theorem en46 : Nat.beq (pbE 46) 0xcc60fab1fed2943ad4c1a4df5428ae2c2eb3d52797dbeb1c15d13f1ab136fadd = true := by decide +kernel
theorem en47 : Nat.beq (pbE 47) 0xb167dcefa048266bad4cdff141546f48e7a93ce9a8b5be97477083778e834f7a = true := by decide +kernel
theorem en48 : Nat.beq (pbE 48) 0xb9b540f7a95adcaac1fefc3761dc92d9238b1180ee107c5eadf06ce902cfe256 = true := by decide +kernel
theorem en49 : Nat.beq (pbE 49) 0x264078f72835cd14f60477351b6f7cf8a06e44562819c7215544dd37d94d1bd8 = true := by decide +kernel
theorem en50 : Nat.beq (pbE 50) 0xe1692b303bb1db563d0375f13f5f4730c2d0f2c033f95294092c82cf65483b7b = true := by decide +kernel
theorem en51 : Nat.beq (pbE 51) 0x723f774d6d454e97429952282f27f6c0c78c3e7d64c1f1ff2442f86981b4aac5 = true := by decide +kernel
theorem en52 : Nat.beq (pbE 52) 0x5109851b6f4c824de04ea31ab027431b983c0f5cb4b7b90823ec22f427c37375 = true := by decide +kernel
theorem en53 : Nat.beq (pbE 53) 0x06f42632394e6eeb10dfa0b3808fc6fd7ef1b39f848b8b945e4c50355696ed97 = true := by decide +kernel
theorem en54 : Nat.beq (pbE 54) 0x038e462b1f7b06ea1e30d8b1438643c1b00b7ece0d87288df5effb14ef1aea70 = true := by decide +kernel
theorem en55 : Nat.beq (pbE 55) 0x77581fcf9cd4f98a6689fb5d66fa92dbc6037f99350851ae52a5ce030f89182b = true := by decide +kernel
theorem en56 : Nat.beq (pbE 56) 0xe3d6132e0f1feec85fa0b0eee01f27c0e0501499357d179c61e0269be351555c = true := by decide +kernel
theorem en57 : Nat.beq (pbE 57) 0xdbf6c7816dc55312f24da880ece63112b80becdb066cfbe764a25ac1d6606d86 = true := by decide +kernel
theorem en58 : Nat.beq (pbE 58) 0xba29b824726d7e71e32cd4fa3c32f0035a30145a5edfd8950b5e1c7c2071ceb3 = true := by decide +kernel
theorem en59 : Nat.beq (pbE 59) 0x5afd468b019c23e426e89a05413cfb363edd06730630bed2021d5558c79578d2 = true := by decide +kernel
theorem en60 : Nat.beq (pbE 60) 0x414852476f3f56655b5473fadcc6ad0b85f9ef31a34739068a68f3a100e846bb = true := by decide +kernel
theorem en61 : Nat.beq (pbE 61) 0xe4769a56f364857e8059250184a808e640565918951a4cac47834054c6cd8060 = true := by decide +kernel
theorem en62 : Nat.beq (pbE 62) 0xe1d821c5ae8cc5ebf63dd3864148ce4272f9cf589cfb6053341a820873ae79f7 = true := by decide +kernel
theorem en63 : Nat.beq (pbE 63) 0xe6b3ae22de1edc6fd27d4a229801e79169b0bca9d1ca6ecf573f0aeaca2c05d8 = true := by decide +kernel
theorem en64 : Nat.beq (pbE 64) 0xffadc9afcc181dd6f830904ad36ace3a9f53ddb6c30de67e399a2bd9654d165e = true := by decide +kernel
theorem en65 : Nat.beq (pbE 65) 0xb089bf416adf3e0c216d8ddf8c1b458a54e82ff7e1a0574c9faa94d9a8a9d70c = true := by decide +kernel
theorem en66 : Nat.beq (pbE 66) 0xeca6f2dc72684288f26191ba63fa9c3b612d1d3e396427363729c8c071908f83 = true := by decide +kernel
theorem ez1 : Nat.beq (twE 1 3 4 11) 0x0b209eb5b1db7e6408db60e35b446dc0c76056717bf8421fe010c022640bd737 = true := by decide +kernel
theorem ez66 : Nat.beq (twE 66 13 12 3) 0x462c25d1aa6df3137975200279419d459c04901a9e847a819cdff3414e369adf = true := by decide +kernel
end Go.Proofs.YtdejhenkdbjakaaDoor
